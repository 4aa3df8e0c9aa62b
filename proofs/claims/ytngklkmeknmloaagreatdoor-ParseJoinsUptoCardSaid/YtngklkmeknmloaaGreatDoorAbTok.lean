/- The scanner: contracts of what reads one token. -/
import Derived.Test.YtngklkmeknmloaaGreatDoorAbTypes
import Derived.Test.YtngklkmeknmloaaGreatDoorAbExt
import Derived.Test.YtngklkmeknmloaaGreatDoorAbSl
import Derived.Test.YtngklkmeknmloaaGreatDoorAbExtP
set_option linter.unusedSimpArgs false
set_option linter.unusedVariables false
set_option maxRecDepth 100000
set_option maxHeartbeats 4000000
open Go.Proofs
open Bool renaming and_eq_true→wa,and_eq_false_iff→we,false_eq_true→wi
open UInt8 renaming ofNat→wb
open List renaming all_cons→wc,append_assoc→wf,cons_append→wg,nil_append→wh,length_take→wj,length_nil→wm
open Int renaming natCast_zero→wd
open Nat renaming min_eq_left→wk,zero_le→wo
namespace Go.Ab
open Go Go.Ab.Tab
def ql9:Str→Int
 |[]=>4
 |c::r=>if qby c.toNat then 3 else if qet c.toNat||qd8 c.toNat then(if wordL.any ((c::r)== ·)then 5 else if qd8 c.toNat then 2 else 1)else 4
def stpN (a:Nat) (c:UInt8):Nat:=10*a+(c.toNat-48)
def valN (a:Nat) (s:Str):Nat:=s.foldl stpN a
theorem q1o (a:Nat):valN a []=a:=rfl
theorem qs9 (a:Nat) (c:UInt8) (r:Str):valN a (c::r)=valN (stpN a c) r:=List.foldl_cons
def tokW (w:Str):PTok:=⟨ql9 w,w,if ql9 w=3 then(valN 0 w:Int)else 0,0,0⟩
def toks (l:List Str):List PTok:=l.map tokW
theorem qo9 (z:Int) (h:qet z=true):qby z=false:=by
 simp only[qet,wa,decide_eq_true_eq]at h
 simp only[qby,we,decide_eq_false_iff_not];omega
theorem qpa (z:Int) (h:qet z=true):qd8 z=false:=by
 simp only[qet,wa,decide_eq_true_eq]at h
 simp only[qd8,we,decide_eq_false_iff_not];omega
theorem qu6 (z:Int) (h:qd8 z=true):qby z=false:=by
 simp only[qd8,wa,decide_eq_true_eq]at h
 simp only[qby,we,decide_eq_false_iff_not];omega
def firstLow:Str→Bool
 |[]=>false
 |c::_=>qet c.toNat
theorem qta:∀x∈wordL,firstLow x=true:=by decide
theorem qtb (c:UInt8) (r:Str) (h:qd8 c.toNat=true):wordL.any ((c::r)== ·)=false:=by
 cases hh:wordL.any ((c::r)== ·)with
 |false=>rfl
 |true=>
  rw[List.any_eq_true]at hh
  obtain⟨x,hx,he⟩:=hh
  have:=qta x hx
  rw[←eq_of_beq he]at this
  have:=qpa _ this
  rw[h]at this;cases this
theorem qf4 {p:Int→Bool} {w:Str} (h:qh8 p w=true):∃c r,w=c::r∧p c.toNat=true∧(c::r).length≤24∧qay qba (c::r)=(c::r).length:=by
 cases w with
 |nil=>cases h
 |cons c r=>
  simp only[qh8,wa,decide_eq_true_eq,beq_iff_eq]at h
  exact⟨c,r,rfl,h.1.2,h.1.1,h.2⟩
theorem tok_name {w:Str} (h:qdv w=true):tokW w=⟨1,w,0,0,0⟩:=by
 simp only[qdv,wa,Bool.not_eq_true']at h
 obtain⟨h1,h2⟩:=h
 obtain⟨c,r,rfl,hc,_,_⟩:=qf4 h1
 have:ql9 (c::r)=1:=by
  simp only[ql9,qo9 _ hc,hc,h2,qpa _ hc,Bool.true_or,if_true,wi,if_false]
 simp only[tokW,this];rfl
theorem tok_con {w:Str} (h:qiu w=true):tokW w=⟨2,w,0,0,0⟩:=by
 obtain⟨c,r,rfl,hc,_,_⟩:=qf4 h
 have:ql9 (c::r)=2:=by
  simp only[ql9,qu6 _ hc,hc,qtb c r hc,Bool.or_true,if_true,wi,if_false]
 simp only[tokW,this];rfl
def qd9 (s:Str):Bool:=s.all fun c=>qby c.toNat
theorem qpb (k:Nat) (h:k<10):(wb (48+k)).toNat=48+k:=by
 simp[UInt8.toNat_ofNat'];omega
theorem digitB_of (k:Nat) (h:k<10):qby ((wb (48+k)).toNat:Nat)=true:=by
 rw[qpb k h];simp only[qby,wa,decide_eq_true_eq];omega
theorem valN_app (a:Nat) (l m:Str):valN a (l++m)=valN (valN a l) m:=List.foldl_append
theorem qzl (f n:Nat):decN (f+1) n=if n<10 then[wb (48+n)]else decN f (n/10)++[wb (48+n % 10)]:=rfl
theorem val_one (k:Nat) (h:k<10) (a:Nat):valN a [wb (48+k)]=10*a+k:=by
 rw[qs9,q1o]
 unfold stpN
 rw[qpb k h];omega
theorem dig_one (k:Nat) (h:k<10):qd9 [wb (48+k)]=true:=by
 show(qby ((wb (48+k)).toNat:Nat) && true)=true
 rw[digitB_of k h];rfl
theorem dig_app (a b:Str):qd9 (a++b)=(qd9 a && qd9 b):=List.all_append
theorem q1p (f:Nat):∀n:Nat,n<10 ^ f→qd9 (decN f n)=true∧valN 0 (decN f n)=n∧(0<f→decN f n≠[]):=by
 induction f with
 |zero=>intro n h;exact⟨rfl,by rw[Nat.pow_zero]at h;show valN 0 []=n;rw[q1o];omega,fun h=>absurd h (by omega)⟩
 |succ f ih=>
  intro n h
  rw[qzl]
  by_cases hn:n<10
  ·rw[if_pos hn]
   exact⟨dig_one n hn,by rw[val_one n hn];omega,fun _=>by simp⟩
  ·rw[if_neg hn]
   have h10:n/10<10 ^ f:=by
    rw[Nat.pow_succ]at h
    exact Nat.div_lt_of_lt_mul (by rw[Nat.mul_comm];exact h)
   obtain⟨h1,h2,_⟩:=ih (n/10) h10
   have hm:n % 10<10:=Nat.mod_lt _ (by omega)
   refine⟨by rw[dig_app,h1,dig_one _ hm];rfl,?_,fun _=>by simp⟩
   rw[valN_app,h2,val_one _ hm];omega
theorem qrj {n:Int} (h0:0≤n) (h1:n≤9223372036854775807):qd9 (decB n)=true∧(valN 0 (decB n):Int)=n∧decB n≠[]:=by
 unfold decB
 rw[if_neg (by omega)]
 have hp:(100000000000000000000:Nat)=10 ^ 20:=rfl
 obtain⟨a,b,c⟩:=q1p 20 n.toNat (by rw[←hp];omega)
 exact⟨a,by rw[b];omega,c (by omega)⟩
theorem tok_int {n:Int} (h0:0≤n) (h1:n≤9223372036854775807):tokW (decB n)=⟨3,decB n,n,0,0⟩:=by
 obtain⟨a,b,c⟩:=qrj h0 h1
 have:ql9 (decB n)=3:=by
  cases hh:decB n with
  |nil=>exact absurd hh c
  |cons x r=>
   rw[hh]at a
   simp only[qd9,wc,wa]at a
   simp only[ql9,a.1,if_true]
 simp only[tokW,this,if_true,b]
theorem qp4 (s:Str) (h:qay qba s=s.length):∀c∈s,c≠32:=by
 induction s with
 |nil=>intro c hc;cases hc
 |cons d r ih=>
  simp only[qay]at h
  split at h
  ·rename_i hd
   intro c hc
   rcases List.mem_cons.1 hc with rfl|hc
   ·intro e;subst e;revert hd;decide
   ·exact ih (by simpa using h) c hc
  ·simp at h
end Go.Ab
namespace Go.Ab
open Go Go.Ab.Tab
def maxI:Nat:=9223372036854775807
def numD (s:Str):Str:=s.take (qay qby s)
def numT (s:Str):PTok:=⟨3,numD s,if valN 0 (numD s)≤maxI then(valN 0 (numD s):Int)else 9223372036854775807,0,0⟩
def notZ (d:Str):Bool:=d==[48]|| !(d.head? ==some 48)
def qou (s:Str):Bool:=decide (valN 0 (numD s)≤maxI) && notZ (numD s) && (qay qba s==(numD s).length)
def qcm (s:Str):Str:=s.take (qay qba s)
def qi7 (s:Str):PTok:=⟨if wordL.any (qcm s== ·)then 5 else if qd8 ((qcm s).headD 0).toNat then 2 else 1,qcm s,0,0,0⟩
def signL':List Str:=[[45,62],[60,61],[60,62],[40],[41],[91],[93],[60],[61],[44],[59],[58],[124],[43],[45],[42],[47],[37]]
def noTok:PTok:=⟨0,[],0,0,0⟩
def qi8 (s:Str):PTok×Bool:=match signL'.find? (preB s)with
 |some x=>(⟨4,x,0,0,0⟩,true)
 |none=>(noTok,false)
def lexT:Str→PTok×Bool
 |[]=>(noTok,false)
 |c::r=>if qby c.toNat then(numT (c::r),qou (c::r))else if qet c.toNat||qd8 c.toNat then(qi7 (c::r),decide ((qcm (c::r)).length≤24))else qi8 (c::r)
theorem valN_mono (t:Str):∀a:Nat,a≤valN a t:=by
 induction t with
 |nil=>intro a;exact Nat.le_refl _
 |cons d t iht=>intro a;have:=iht (stpN a d);rw[qs9];unfold stpN at this ⊢;omega
theorem q3n (M acc:Nat) (c:UInt8) (r:Str):Lib.parseUintM M acc (c::r)=if 48≤c.toNat∧c.toNat≤57 then(if 1844674407370955162≤acc then .range else if M<acc*10+(c.toNat-48)then .range else Lib.parseUintM M (acc*10+(c.toNat-48)) r)else .syntax:=by rw[Lib.parseUintM]
theorem qzm {c:UInt8} (h:qby c.toNat=true):48≤c.toNat∧c.toNat≤57:=by
 simp only[qby,wa,decide_eq_true_eq]at h;omega
theorem parseM (M:Nat) (hM:M=18446744073709551615) (s:Str):∀acc:Nat,qd9 s=true→acc≤M→Lib.parseUintM M acc s=if valN acc s≤M then .ok (valN acc s)else .range:=by
 induction s with
 |nil=>
  intro acc _ h
  show Lib.NumEnd.ok acc=if acc≤M then _ else _
  rw[if_pos h];rfl
 |cons c r ih=>
  intro acc hd h
  have hd1:qby c.toNat=true∧qd9 r=true:=by
   unfold qd9 at hd ⊢
   rw[wc,wa]at hd;exact hd
  have hc:=qzm hd1.1
  rw[q3n,if_pos hc,qs9]
  have e:acc*10+(c.toNat-48)=stpN acc c:=by unfold stpN;omega
  have hm:=valN_mono r (stpN acc c)
  have hst:10*acc≤stpN acc c:=by unfold stpN;omega
  rw[e]
  generalize stpN acc c=q at*
  by_cases h1:1844674407370955162≤acc
  ·rw[if_pos h1,if_neg (by omega)]
  ·rw[if_neg h1]
   by_cases h2:M<q
   ·rw[if_pos h2,if_neg (by omega)]
   ·rw[if_neg h2];exact ih _ hd1.2 (by omega)
theorem parse_num (s:Str) (hd:qd9 s=true) (hne:s≠[]):Lib.parseIntB 64 s=if valN 0 s≤maxI then .ok (valN 0 s:Int)else .range:=by
 cases s with
 |nil=>exact absurd rfl hne
 |cons c r=>
  have hd1:qby c.toNat=true:=by
   unfold qd9 at hd
   rw[wc,wa]at hd;exact hd.1
  have hc:=qzm hd1
  have hp:(2:Nat) ^ 64-1=18446744073709551615:=by decide
  have hq:(2:Nat) ^ (64-1)=9223372036854775808:=by decide
  have hm:=parseM _ hp (c::r) 0 hd (wo _)
  have hu:Lib.parseUintB 64 (c::r)=Lib.parseUintM (2 ^ 64-1) 0 (c::r):=rfl
  obtain⟨v,hv⟩:∃v,v=valN 0 (c::r):=⟨_,rfl⟩
  rw[←hv]at hm ⊢
  unfold Lib.parseIntB
  simp only[hq]
  rw[if_neg (by omega:¬(c.toNat=43∨c.toNat=45)),hu,hm]
  unfold maxI
  by_cases h1:v≤2 ^ 64-1
  ·rw[if_pos h1]
   simp only
   by_cases h2:v≤9223372036854775807
   ·rw[if_pos h2,if_neg (by omega),if_neg (by omega),if_neg (by omega)]
   ·rw[if_neg h2,if_pos (by omega)]
  ·rw[if_neg h1,if_neg (by omega)]
theorem sat_num (s:Str) (hd:qd9 s=true):Lib.intSat 64 s=9223372036854775807:=by
 unfold Lib.intSat
 rw[if_neg]
 ·decide
 ·cases s with
  |nil=>simp
  |cons c r=>
   have hc:48≤c.toNat∧c.toNat≤57:=by
    simp only[qd9,wc,wa]at hd
    have:=hd.1
    simp only[qby,wa,decide_eq_true_eq]at this;omega
   simp;omega
theorem qvs (p:Int→Bool):∀s:Str,(s.take (qay p s)).all (fun c=>p c.toNat)=true
 |[]=>rfl
 |c::r=>by
  simp only[qay]
  split
  ·rename_i h
   simp only[List.take_succ_cons,wc,h,qvs p r,Bool.and_self]
  ·rfl
end Go.Ab
namespace Go.Ab
open Go Go.Ab.Tab
def eqIf (d:Option TypeDesc) (b:Bool):Option AVal:=match d with
 |some (.interface _)=>some (.bool b)
 |_=>none
theorem qvt (ms:Array (String×TypeId)) (b:Bool):eqIf (some (.interface ms)) b=some (.bool b):=rfl
section
variable (P:Program) (cmp:List TypeId) (t:TypeId)
theorem bin_inn:binA P cmp .eql t true .nili .nili=eqIf (P.underlying t) true:=by
 simp only[binA,eqT,eqIf]
 cases P.underlying t with
 |none=>rfl
 |some d=>cases d<;>rfl
theorem bin_iin (n:Bool) (u:TypeId) (v:AVal):binA P cmp .eql t n (.iface u v) .nili=eqIf (P.underlying t) false:=by
 simp only[binA,eqT,eqIf]
 cases P.underlying t with
 |none=>rfl
 |some d=>cases d<;>rfl
end
theorem qtc (v:Value):qep (.const v)=true:=rfl
theorem qtd (t:Tmp):qep (.tmp t)=false:=rfl
theorem parse_c (d:Str) (hd:qd9 d=true) (hne:d≠[]) (hl:d.length≤65536):Ret C 236 [.str d,.int .i64 10,.int .i64 64]
 (.tuple [.int .i64 (if valN 0 d≤maxI then(valN 0 d:Int)else 9223372036854775807),if valN 0 d≤maxI then .nili else .iface errT (.eptr [] 0)]):=by
 have e:=parse_num d hd hne
 have hl':d.length≤qh2:=by unfold qh2;omega
 refine Ret.mk rfl (by by_cases h:valN 0 d≤maxI<;>simp[h,refs,qad]) ?_
 unfold C
 rw[qtr ext_parse]
 unfold qjx
 simp only
 rw[if_pos hl',e]
 by_cases h:valN 0 d≤maxI
 ·simp only[if_pos h]
 ·simp only[if_neg h,sat_num d hd]
theorem qvu (s:Str):(numD s).length=qay qby s:=by
 unfold numD
 rw[wj,wk (qft _ _)]
theorem numD_dig (s:Str):qd9 (numD s)=true:=qvs qby s
theorem hd48 (d:Str):((d==[48])=true→notZ d=true)∧((d==[48])=false→notZ d= !(d.head? ==some 48)):=by
 unfold notZ
 constructor<;>intro h<;>rw[h]<;>simp
theorem number_c (c:UInt8) (r:Str) (hc:qby c.toNat=true) (hs:(c::r).length≤65536):Ret C 193 [.str (c::r)] (.tuple [.agg (numT (c::r)).cells,.bool (qou (c::r))]):=by
 obtain⟨s,hsd⟩:∃s,s=c::r:=⟨_,rfl⟩
 rw[←hsd]at hs ⊢
 have hsl:s.length≤qac:=by unfold qac;omega
 have hne:numD s≠[]:=by
  intro e
  have:=qvu s
  rw[e,hsd]at this
  simp only[qay,hc,if_true,wm]at this;omega
 have c1:=qp3 qby 192 qyi s hsl
 have c2:=qp3 qba 237 qyj s hsl
 have hdl:(numD s).length≤65536:=by rw[qvu];have:=qft qby s;omega
 have c3:=parse_c (numD s) (numD_dig s) hne hdl
 have h1:((qay qby s:Int)≤(s.length:Int)):=by have:=qft qby s;omega
 have h2:(numD s).length≤qac:=by unfold qac;omega
 have hnd:s.take (qay qby s)=numD s:=rfl
 obtain⟨d0,dr,hd0⟩:∃a b,numD s=a::b:=by
  cases h:numD s with
  |nil=>exact absurd h hne
  |cons a b=>exact⟨a,b,rfl⟩
 refine Ret.mk rfl rfl ?_
 have i0:(numD s)[0]? =some d0:=by rw[hd0];rfl
 have hT:(numT s).cells=[.int .i64 3,.str (numD s),.int .i64 (if valN 0 (numD s)≤maxI then(valN 0 (numD s):Int)else 9223372036854775807),.int .i64 0,.int .i64 0]:=rfl
 have hO:qou s=(decide (valN 0 (numD s)≤maxI) && notZ (numD s) && (qay qba s==(numD s).length)):=rfl
 rw[hT,hO]
 obtain⟨k1,k2⟩:=hd48 (numD s)
 have k3:((numD s).head? ==some (48:UInt8))=((d0.toNat:Int)==48):=by
  rw[hd0]
  by_cases h:d0=48
  ·subst h;rfl
  ·have:d0.toNat≠48:=fun e=>h (UInt8.toNat_inj.1 (by rw[e];rfl))
   have h1:((d0.toNat:Int)==48)=false:=by simp;omega
   rw[h1];simp[h]
 have k4:((qay qba s:Int)==((numD s).length:Int))=(qay qba s==(numD s).length):=int_beq _ _
 by_cases h:valN 0 (numD s)≤maxI
 ·have hdec:decide (valN 0 (numD s)≤maxI)=true:=decide_eq_true h
  simp only[if_pos h,hdec]at c3 ⊢
  cases hz:numD s==[48]
  ·rw[k2 hz,k3]
   rw[C_fn rfl Tryz.func193 rfl (by kernel_rfl) (m:=38) rfl];simp only[Z3,simprocAttr,Tryz.f193,qs5,ty,c1 _,h1,qot,hnd,c3 _,bin_inn,qtc,qtd,qvt,hz,i0,bne]
   cases hq:((d0.toNat:Int)==48)
   ·simp only[Z3,simprocAttr,qs5,ty,hq,c2 _,h2,k4]
    rw[qeh _ _ _ rfl,qei _ _ _ rfl];rfl
   ·simp only[Z3,simprocAttr,qs5,ty,hq]
    rw[qeh _ _ _ rfl,qei _ _ _ rfl];rfl
  ·rw[k1 hz]
   rw[C_fn rfl Tryz.func193 rfl (by kernel_rfl) (m:=38) rfl];simp only[Z3,simprocAttr,Tryz.f193,qs5,ty,c1 _,h1,qot,hnd,c3 _,bin_inn,qtc,qtd,qvt,hz,i0,bne,c2 _,h2,k4]
   rw[qeh _ _ _ rfl,qei _ _ _ rfl];rfl
 ·have hdec:decide (valN 0 (numD s)≤maxI)=false:=decide_eq_false h
  simp only[if_neg h,hdec]at c3 ⊢
  rw[C_fn rfl Tryz.func193 rfl (by kernel_rfl) (m:=38) rfl];simp only[Z3,simprocAttr,Tryz.f193,qs5,ty,c1 _,h1,qot,hnd,c3 _,bin_iin,qtc,qtd,qvt]
  rw[qeh _ _ _ rfl,qei _ _ _ rfl];rfl
theorem qte (s:Str):(qcm s).length=qay qba s:=by
 unfold qcm
 rw[wj,wk (qft _ _)]
theorem qxp (c:UInt8) (r:Str) (hc:qba c.toNat=true) (hs:(c::r).length≤65536):Ret C 196 [.str (c::r)] (.tuple [.agg (qi7 (c::r)).cells,.bool (decide ((qcm (c::r)).length≤24))]):=by
 obtain⟨s,hsd⟩:∃s,s=c::r:=⟨_,rfl⟩
 rw[←hsd]at hs ⊢
 have hsl:s.length≤qac:=by unfold qac;omega
 have hwl:(qcm s).length≤qac:=by rw[qte];have:=qft qba s;omega
 obtain⟨d0,dr,hd0⟩:∃a b,qcm s=a::b:=by
  cases h:qcm s with
  |nil=>
   have:=qte s
   rw[h,hsd]at this
   simp only[qay,hc,if_true,wm]at this;omega
  |cons a b=>exact⟨a,b,rfl⟩
 have c2:=qp3 qba 237 qyj s hsl
 have c3:=q1m (qcm s)
 have c4:=quk d0.toNat
 have h1:((qay qba s:Int)≤(s.length:Int)):=by have:=qft qba s;omega
 have hnd:s.take (qay qba s)=qcm s:=rfl
 have i0:(qcm s)[0]? =some d0:=by rw[hd0];rfl
 have h24:decide (((qcm s).length:Int)≤24)=decide ((qcm s).length≤24):=by
  by_cases h:(qcm s).length≤24
  ·rw[decide_eq_true h,decide_eq_true (by omega)]
  ·rw[decide_eq_false h,decide_eq_false (by omega)]
 have hT:(qi7 s).cells=[.int .i64 (if wordL.any (qcm s== ·)then 5 else if qd8 d0.toNat then 2 else 1),.str (qcm s),.int .i64 0,.int .i64 0,.int .i64 0]:=by
  unfold qi7;rw[hd0];rfl
 refine Ret.mk rfl rfl ?_
 rw[hT]
 cases hw:wordL.any (qcm s== ·)
 ·cases hu:qd8 d0.toNat
  ·rw[C_fn rfl Tryz.func196 rfl (by kernel_rfl) (m:=24) rfl];simp only[Z3,simprocAttr,Tryz.f196,fx_196,ty,c2 _,h1,qot,hnd,c3 _,c4 _,i0,hw,hu,hwl,h24]
   rw[qeh _ _ _ rfl,qei _ _ _ rfl];rfl
  ·rw[C_fn rfl Tryz.func196 rfl (by kernel_rfl) (m:=24) rfl];simp only[Z3,simprocAttr,Tryz.f196,fx_196,ty,c2 _,h1,qot,hnd,c3 _,c4 _,i0,hw,hu,hwl,h24]
   rw[qeh _ _ _ rfl,qei _ _ _ rfl];rfl
 ·rw[C_fn rfl Tryz.func196 rfl (by kernel_rfl) (m:=24) rfl];simp only[Z3,simprocAttr,Tryz.f196,fx_196,ty,c2 _,h1,qot,hnd,c3 _,i0,hw,hwl,h24]
  rw[qeh _ _ _ rfl,qei _ _ _ rfl];rfl
theorem signs_c:Ret C 235 [] (.agg (signL'.map .str)):=Ret.mk rfl rfl (C_of (n:=4) (by kernel_rfl))
theorem sign_c (s:Str) (hs:s.length≤65536):Ret C 191 [.str s] (.tuple [.agg (qi8 s).1.cells,.bool (qi8 s).2]):=by
 refine Ret.mk rfl rfl ?_
 have e1:=signs_c
 have hsl:s.length≤qac:=by unfold qac;omega
 have c1:=fun(x:Str) hx=>qzj s x hsl hx
 rw[C_fn rfl Tryz.func191 rfl (by kernel_rfl) (m:=16) rfl];simp only[Z3,simprocAttr,Tryz.f191,qpv,ty,e1 _]
 generalize hb:qam PP cmp0 C lpC _=f;generalize hl:lpC f _=r
 obtain⟨ex,s',rfl,h2⟩:=qeg (α:=Nat) hl [3,5,8,9,10,11,12,13,14,15] (fun i=>[(7,.int .i64 i)]) (fun i=>i≤18) (fun i=>18-i) (fun i=>(signL'.drop i).find? (preB s))
  (fun ts H r ex st=>(r=none∧ex= .exit 0∧At [3,5,7,8,9,10,11,12,13,14,15] ts H [] st)∨(∃x,r=some x∧ex= .ret∧At [5,7,8,9,10,11,12,13,14,15] ts [.box (PTok.cells ⟨4,x,0,0,0⟩)] [(3,.bool true)] st)) 0 (wo _) (At.of [] (by simp only[ats,wd]) (by simp only[List.append_nil])) (by
   intro i j H d hi
   clear hl;subst hb
   by_cases hlt:i<18
   ·have e1':((i:Int)<18):=by omega
    have hx:i<signL'.length:=hlt
    have e3:(signL'.map AVal.str)[i]? =some (.str signL'[i]):=by simp[hx]
    have hxl:signL'[i].length≤qac:=by
     have:∀x∈signL',x.length≤qac:=by decide
     exact this _ (List.getElem_mem hx)
    have hst:(signL'.drop i).find? (preB s)=if preB s signL'[i]=true then some signL'[i]else(signL'.drop (i+1)).find? (preB s):=by
     rw[List.drop_eq_getElem_cons hx,List.find?_cons]
     cases preB s signL'[i]<;>rfl
    have eI:qsq PP (some (.array 18 9)) (.agg (signL'.map AVal.str)) (.int .i64 (i:Int))=some (.val (.str signL'[i]) .same):=by
     have k1:qaq PP 9=some 1:=sz_9
     have k2:aggA PP 9=some false:=ag_9
     unfold qsq qek
     simp only[k1,k2,Int.toNat_natCast,Nat.mul_one,e3]
     rw[if_pos (by simp;omega)];rfl
    cases hp:preB s signL'[i]
    ·simp only[Z3,simprocAttr,effs,qpv,ty,e1',eI,c1 _ hxl _,hp,qaz (show i≤qac by unfold qac;omega)]
     exact .inl ⟨i+1,_,rfl,hlt,At.of _ (by simp only[ats,wd]) (by simp only[wg,wf,wh];rfl),by simp only[];omega,by simp only[hst,hp];rfl⟩
    ·simp only[Z3,simprocAttr,effs,qpv,ty,e1',eI,c1 _ hxl _,hp]
     exact .inr ⟨_,_,rfl,by simp,.inr ⟨signL'[i],by simp only[hst,hp,if_true],rfl,At.of _ (by simp only[ats,wd]) (by simp only[wg,wf,wh];rfl)⟩⟩
   ·have e1':¬((i:Int)<18):=by omega
    have hi18:i=18:=by omega
    subst hi18
    simp only[Z3,simprocAttr,qpv,ty,e1']
    exact .inr ⟨_,_,rfl,by simp,.inl ⟨rfl,rfl,At.of _ (by simp only[ats,wd]) (by simp only[wg,wf,wh];rfl)⟩⟩)
 rw[List.drop_zero]at h2
 unfold qi8
 rcases h2 with⟨hr,rfl,h2⟩|⟨x,hr,rfl,h2⟩
 ·obtain⟨j,H,d,rfl⟩:=h2.elim
  clear hl
  rw[hr]
  simp only[Z3,simprocAttr,effs,qpv,ty]
  rw[qeh _ _ _ rfl,qei _ _ _ rfl];rfl
 ·obtain⟨j,H,d,rfl⟩:=h2.elim
  clear hl
  rw[hr]
  simp only[Z3,simprocAttr,effs,qpv,ty]
  rw[qeh _ _ _ rfl,qei _ _ _ rfl];rfl
end Go.Ab
