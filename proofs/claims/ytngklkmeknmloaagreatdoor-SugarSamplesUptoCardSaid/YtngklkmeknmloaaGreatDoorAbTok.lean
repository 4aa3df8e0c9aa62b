/- The scanner: contracts of what reads one token. -/
import Derived.Test.YtngklkmeknmloaaGreatDoorAbScan
import Derived.Test.YtngklkmeknmloaaGreatDoorAbExt
import Derived.Test.YtngklkmeknmloaaGreatDoorAbTypes
import Derived.Test.YtngklkmeknmloaaGreatDoorAbSl
import Derived.Test.YtngklkmeknmloaaGreatDoorAbExtP
set_option linter.unusedSimpArgs false
set_option linter.unusedVariables false
set_option maxRecDepth 100000
set_option maxHeartbeats 4000000
open Go.Proofs
open Bool renaming and_eq_true→wa
open Int renaming natCast_zero→wb
open List renaming all_cons→wc,append_assoc→wd,cons_append→we,nil_append→wg,length_take→wh,length_nil→wj
open Nat renaming min_eq_left→wi,zero_le→wk
namespace Go.Ab
open Go Go.Ab.Tab
def sortW:Str→Int
 |[]=>4
 |c::r=>if qbf c.toNat then 3 else if qfz c.toNat||qdm c.toNat then(if wordL.any ((c::r)== ·)then 5 else if qdm c.toNat then 2 else 1)else 4
def stpN (a:Nat) (c:UInt8):Nat:=10*a+(c.toNat-48)
def valN (a:Nat) (s:Str):Nat:=s.foldl stpN a
theorem qo7 (a:Nat) (c:UInt8) (r:Str):valN a (c::r)=valN (stpN a c) r:=List.foldl_cons
def tokW (w:Str):PTok:=⟨sortW w,w,if sortW w=3 then(valN 0 w:Int)else 0,0,0⟩
def toks (l:List Str):List PTok:=l.map tokW
def qe9 (s:Str):Bool:=s.all fun c=>qbf c.toNat
end Go.Ab
namespace Go.Ab
open Go Go.Ab.Tab
def maxI:Nat:=9223372036854775807
def numD (s:Str):Str:=s.take (qat qbf s)
def numT (s:Str):PTok:=⟨3,numD s,if valN 0 (numD s)≤maxI then(valN 0 (numD s):Int)else 9223372036854775807,0,0⟩
def notZ (d:Str):Bool:=d==[48]|| !(d.head? ==some 48)
def numOk (s:Str):Bool:=decide (valN 0 (numD s)≤maxI) && notZ (numD s) && (qat qb3 s==(numD s).length)
def qbz (s:Str):Str:=s.take (qat qb3 s)
def nameT (s:Str):PTok:=⟨if wordL.any (qbz s== ·)then 5 else if qdm ((qbz s).headD 0).toNat then 2 else 1,qbz s,0,0,0⟩
def signL':List Str:=[[45,62],[60,61],[60,62],[40],[41],[91],[93],[60],[61],[44],[59],[58],[124],[43],[45],[42],[47],[37]]
def noTok:PTok:=⟨0,[],0,0,0⟩
def qi7 (s:Str):PTok×Bool:=match signL'.find? (preB s)with
 |some x=>(⟨4,x,0,0,0⟩,true)
 |none=>(noTok,false)
def lexT:Str→PTok×Bool
 |[]=>(noTok,false)
 |c::r=>if qbf c.toNat then(numT (c::r),numOk (c::r))else if qfz c.toNat||qdm c.toNat then(nameT (c::r),decide ((qbz (c::r)).length≤24))else qi7 (c::r)
theorem valN_mono (t:Str):∀a:Nat,a≤valN a t:=by
 induction t with
 |nil=>intro a;exact Nat.le_refl _
 |cons d t iht=>intro a;have:=iht (stpN a d);rw[qo7];unfold stpN at this ⊢;omega
theorem qr7 (M acc:Nat) (c:UInt8) (r:Str):Lib.parseUintM M acc (c::r)=if 48≤c.toNat∧c.toNat≤57 then(if 1844674407370955162≤acc then .range else if M<acc*10+(c.toNat-48)then .range else Lib.parseUintM M (acc*10+(c.toNat-48)) r)else .syntax:=by rw[Lib.parseUintM]
theorem qo8 {c:UInt8} (h:qbf c.toNat=true):48≤c.toNat∧c.toNat≤57:=by
 simp only[qbf,wa,decide_eq_true_eq]at h;omega
theorem parseM (M:Nat) (hM:M=18446744073709551615) (s:Str):∀acc:Nat,qe9 s=true→acc≤M→Lib.parseUintM M acc s=if valN acc s≤M then .ok (valN acc s)else .range:=by
 induction s with
 |nil=>
  intro acc _ h
  show Lib.NumEnd.ok acc=if acc≤M then _ else _
  rw[if_pos h];rfl
 |cons c r ih=>
  intro acc hd h
  have hd1:qbf c.toNat=true∧qe9 r=true:=by
   unfold qe9 at hd ⊢
   rw[wc,wa]at hd;exact hd
  have hc:=qo8 hd1.1
  rw[qr7,if_pos hc,qo7]
  have e:acc*10+(c.toNat-48)=stpN acc c:=by unfold stpN;omega
  have hm:=valN_mono r (stpN acc c)
  have hst:10*acc≤stpN acc c:=by unfold stpN;omega
  rw[e]
  generalize stpN acc c=q at*
  by_cases h1:1844674407370955162≤acc
  ·rw[if_pos h1,if_neg (by omega)]
  ·rw[if_neg h1]
   by_cases h2:M<q
   ·rw[if_pos h2,if_neg (by omega)]
   ·rw[if_neg h2];exact ih _ hd1.2 (by omega)
theorem parse_num (s:Str) (hd:qe9 s=true) (hne:s≠[]):Lib.parseIntB 64 s=if valN 0 s≤maxI then .ok (valN 0 s:Int)else .range:=by
 cases s with
 |nil=>exact absurd rfl hne
 |cons c r=>
  have hd1:qbf c.toNat=true:=by
   unfold qe9 at hd
   rw[wc,wa]at hd;exact hd.1
  have hc:=qo8 hd1
  have hp:(2:Nat) ^ 64-1=18446744073709551615:=by decide
  have hq:(2:Nat) ^ (64-1)=9223372036854775808:=by decide
  have hm:=parseM _ hp (c::r) 0 hd (wk _)
  have hu:Lib.parseUintB 64 (c::r)=Lib.parseUintM (2 ^ 64-1) 0 (c::r):=rfl
  obtain⟨v,hv⟩:∃v,v=valN 0 (c::r):=⟨_,rfl⟩
  rw[←hv]at hm ⊢
  unfold Lib.parseIntB
  simp only[hq]
  rw[if_neg (by omega:¬(c.toNat=43∨c.toNat=45)),hu,hm]
  unfold maxI
  by_cases h1:v≤2 ^ 64-1
  ·rw[if_pos h1]
   simp only
   by_cases h2:v≤9223372036854775807
   ·rw[if_pos h2,if_neg (by omega),if_neg (by omega),if_neg (by omega)]
   ·rw[if_neg h2,if_pos (by omega)]
  ·rw[if_neg h1,if_neg (by omega)]
theorem sat_num (s:Str) (hd:qe9 s=true):Lib.intSat 64 s=9223372036854775807:=by
 unfold Lib.intSat
 rw[if_neg]
 ·decide
 ·cases s with
  |nil=>simp
  |cons c r=>
   have hc:48≤c.toNat∧c.toNat≤57:=by
    simp only[qe9,wc,wa]at hd
    have:=hd.1
    simp only[qbf,wa,decide_eq_true_eq]at this;omega
   simp;omega
theorem qqz (p:Int→Bool):∀s:Str,(s.take (qat p s)).all (fun c=>p c.toNat)=true
 |[]=>rfl
 |c::r=>by
  simp only[qat]
  split
  ·rename_i h
   simp only[List.take_succ_cons,wc,h,qqz p r,Bool.and_self]
  ·rfl
end Go.Ab
namespace Go.Ab
open Go Go.Ab.Tab
def eqIf (d:Option TypeDesc) (b:Bool):Option AVal:=match d with
 |some (.interface _)=>some (.bool b)
 |_=>none
theorem qmu (ms:Array (String×TypeId)) (b:Bool):eqIf (some (.interface ms)) b=some (.bool b):=rfl
section
variable (P:Program) (cmp:List TypeId) (t:TypeId)
theorem bin_inn:binA P cmp .eql t true .nili .nili=eqIf (P.underlying t) true:=by
 simp only[binA,eqT,eqIf]
 cases P.underlying t with
 |none=>rfl
 |some d=>cases d<;>rfl
theorem bin_iin (n:Bool) (u:TypeId) (v:AVal):binA P cmp .eql t n (.iface u v) .nili=eqIf (P.underlying t) false:=by
 simp only[binA,eqT,eqIf]
 cases P.underlying t with
 |none=>rfl
 |some d=>cases d<;>rfl
end
theorem qkj (v:Value):qbg (.const v)=true:=rfl
theorem qkk (t:Tmp):qbg (.tmp t)=false:=rfl
theorem parse_c (d:Str) (hd:qe9 d=true) (hne:d≠[]) (hl:d.length≤65536):Ret C 236 [.str d,.int .i64 10,.int .i64 64]
 (.tuple [.int .i64 (if valN 0 d≤maxI then(valN 0 d:Int)else 9223372036854775807),if valN 0 d≤maxI then .nili else .iface errT (.eptr [] 0)]):=by
 have e:=parse_num d hd hne
 have hl':d.length≤qgy:=by unfold qgy;omega
 refine Ret.mk rfl (by by_cases h:valN 0 d≤maxI<;>simp[h,refs,qag]) ?_
 unfold C
 rw[qfj ext_parse]
 unfold qep
 simp only
 rw[if_pos hl',e]
 by_cases h:valN 0 d≤maxI
 ·simp only[if_pos h]
 ·simp only[if_neg h,sat_num d hd]
theorem qmv (s:Str):(numD s).length=qat qbf s:=by
 unfold numD
 rw[wh,wi (qc5 _ _)]
theorem numD_dig (s:Str):qe9 (numD s)=true:=qqz qbf s
theorem hd48 (d:Str):((d==[48])=true→notZ d=true)∧((d==[48])=false→notZ d= !(d.head? ==some 48)):=by
 unfold notZ
 constructor<;>intro h<;>rw[h]<;>simp
theorem number_c (c:UInt8) (r:Str) (hc:qbf c.toNat=true) (hs:(c::r).length≤65536):Ret C 193 [.str (c::r)] (.tuple [.agg (numT (c::r)).cells,.bool (numOk (c::r))]):=by
 obtain⟨s,hsd⟩:∃s,s=c::r:=⟨_,rfl⟩
 rw[←hsd]at hs ⊢
 have hsl:s.length≤qae:=by unfold qae;omega
 have hne:numD s≠[]:=by
  intro e
  have:=qmv s
  rw[e,hsd]at this
  simp only[qat,hc,if_true,wj]at this;omega
 have c1:=qki qbf 192 qod s hsl
 have c2:=qki qb3 237 inner_c s hsl
 have hdl:(numD s).length≤65536:=by rw[qmv];have:=qc5 qbf s;omega
 have c3:=parse_c (numD s) (numD_dig s) hne hdl
 have h1:((qat qbf s:Int)≤(s.length:Int)):=by have:=qc5 qbf s;omega
 have h2:(numD s).length≤qae:=by unfold qae;omega
 have hnd:s.take (qat qbf s)=numD s:=rfl
 obtain⟨d0,dr,hd0⟩:∃a b,numD s=a::b:=by
  cases h:numD s with
  |nil=>exact absurd h hne
  |cons a b=>exact⟨a,b,rfl⟩
 refine Ret.mk rfl rfl ?_
 have i0:(numD s)[0]? =some d0:=by rw[hd0];rfl
 have hT:(numT s).cells=[.int .i64 3,.str (numD s),.int .i64 (if valN 0 (numD s)≤maxI then(valN 0 (numD s):Int)else 9223372036854775807),.int .i64 0,.int .i64 0]:=rfl
 have hO:numOk s=(decide (valN 0 (numD s)≤maxI) && notZ (numD s) && (qat qb3 s==(numD s).length)):=rfl
 rw[hT,hO]
 obtain⟨k1,k2⟩:=hd48 (numD s)
 have k3:((numD s).head? ==some (48:UInt8))=((d0.toNat:Int)==48):=by
  rw[hd0]
  by_cases h:d0=48
  ·subst h;rfl
  ·have:d0.toNat≠48:=fun e=>h (UInt8.toNat_inj.1 (by rw[e];rfl))
   have h1:((d0.toNat:Int)==48)=false:=by simp;omega
   rw[h1];simp[h]
 have k4:((qat qb3 s:Int)==((numD s).length:Int))=(qat qb3 s==(numD s).length):=int_beq _ _
 by_cases h:valN 0 (numD s)≤maxI
 ·have hdec:decide (valN 0 (numD s)≤maxI)=true:=decide_eq_true h
  simp only[if_pos h,hdec]at c3 ⊢
  cases hz:numD s==[48]
  ·rw[k2 hz,k3]
   rw[C_fn rfl Tryz.func193 rfl (by kernel_rfl) (m:=38) rfl];simp only[Z3,simprocAttr,Tryz.f193,qkg,ty,c1 _,h1,qi6,hnd,c3 _,bin_inn,qkj,qkk,qmu,hz,i0,bne]
   cases hq:((d0.toNat:Int)==48)
   ·simp only[Z3,simprocAttr,qkg,ty,hq,c2 _,h2,k4]
    rw[qbr _ _ _ rfl,qbs _ _ _ rfl];rfl
   ·simp only[Z3,simprocAttr,qkg,ty,hq]
    rw[qbr _ _ _ rfl,qbs _ _ _ rfl];rfl
  ·rw[k1 hz]
   rw[C_fn rfl Tryz.func193 rfl (by kernel_rfl) (m:=38) rfl];simp only[Z3,simprocAttr,Tryz.f193,qkg,ty,c1 _,h1,qi6,hnd,c3 _,bin_inn,qkj,qkk,qmu,hz,i0,bne,c2 _,h2,k4]
   rw[qbr _ _ _ rfl,qbs _ _ _ rfl];rfl
 ·have hdec:decide (valN 0 (numD s)≤maxI)=false:=decide_eq_false h
  simp only[if_neg h,hdec]at c3 ⊢
  rw[C_fn rfl Tryz.func193 rfl (by kernel_rfl) (m:=38) rfl];simp only[Z3,simprocAttr,Tryz.f193,qkg,ty,c1 _,h1,qi6,hnd,c3 _,bin_iin,qkj,qkk,qmu]
  rw[qbr _ _ _ rfl,qbs _ _ _ rfl];rfl
theorem qkl (s:Str):(qbz s).length=qat qb3 s:=by
 unfold qbz
 rw[wh,wi (qc5 _ _)]
theorem qn0 (c:UInt8) (r:Str) (hc:qb3 c.toNat=true) (hs:(c::r).length≤65536):Ret C 196 [.str (c::r)] (.tuple [.agg (nameT (c::r)).cells,.bool (decide ((qbz (c::r)).length≤24))]):=by
 obtain⟨s,hsd⟩:∃s,s=c::r:=⟨_,rfl⟩
 rw[←hsd]at hs ⊢
 have hsl:s.length≤qae:=by unfold qae;omega
 have hwl:(qbz s).length≤qae:=by rw[qkl];have:=qc5 qb3 s;omega
 obtain⟨d0,dr,hd0⟩:∃a b,qbz s=a::b:=by
  cases h:qbz s with
  |nil=>
   have:=qkl s
   rw[h,hsd]at this
   simp only[qat,hc,if_true,wj]at this;omega
  |cons a b=>exact⟨a,b,rfl⟩
 have c2:=qki qb3 237 inner_c s hsl
 have c3:=isWord_c (qbz s)
 have c4:=qoc d0.toNat
 have h1:((qat qb3 s:Int)≤(s.length:Int)):=by have:=qc5 qb3 s;omega
 have hnd:s.take (qat qb3 s)=qbz s:=rfl
 have i0:(qbz s)[0]? =some d0:=by rw[hd0];rfl
 have h24:decide (((qbz s).length:Int)≤24)=decide ((qbz s).length≤24):=by
  by_cases h:(qbz s).length≤24
  ·rw[decide_eq_true h,decide_eq_true (by omega)]
  ·rw[decide_eq_false h,decide_eq_false (by omega)]
 have hT:(nameT s).cells=[.int .i64 (if wordL.any (qbz s== ·)then 5 else if qdm d0.toNat then 2 else 1),.str (qbz s),.int .i64 0,.int .i64 0,.int .i64 0]:=by
  unfold nameT;rw[hd0];rfl
 refine Ret.mk rfl rfl ?_
 rw[hT]
 cases hw:wordL.any (qbz s== ·)
 ·cases hu:qdm d0.toNat
  ·rw[C_fn rfl Tryz.func196 rfl (by kernel_rfl) (m:=24) rfl];simp only[Z3,simprocAttr,Tryz.f196,fx_196,ty,c2 _,h1,qi6,hnd,c3 _,c4 _,i0,hw,hu,hwl,h24]
   rw[qbr _ _ _ rfl,qbs _ _ _ rfl];rfl
  ·rw[C_fn rfl Tryz.func196 rfl (by kernel_rfl) (m:=24) rfl];simp only[Z3,simprocAttr,Tryz.f196,fx_196,ty,c2 _,h1,qi6,hnd,c3 _,c4 _,i0,hw,hu,hwl,h24]
   rw[qbr _ _ _ rfl,qbs _ _ _ rfl];rfl
 ·rw[C_fn rfl Tryz.func196 rfl (by kernel_rfl) (m:=24) rfl];simp only[Z3,simprocAttr,Tryz.f196,fx_196,ty,c2 _,h1,qi6,hnd,c3 _,i0,hw,hwl,h24]
  rw[qbr _ _ _ rfl,qbs _ _ _ rfl];rfl
theorem signs_c:Ret C 235 [] (.agg (signL'.map .str)):=Ret.mk rfl rfl (C_of (n:=4) (by kernel_rfl))
theorem sign_c (s:Str) (hs:s.length≤65536):Ret C 191 [.str s] (.tuple [.agg (qi7 s).1.cells,.bool (qi7 s).2]):=by
 refine Ret.mk rfl rfl ?_
 have e1:=signs_c
 have hsl:s.length≤qae:=by unfold qae;omega
 have c1:=fun(x:Str) hx=>qo5 s x hsl hx
 rw[C_fn rfl Tryz.func191 rfl (by kernel_rfl) (m:=16) rfl];simp only[Z3,simprocAttr,Tryz.f191,qh5,ty,e1 _]
 generalize hb:qar PP cmp0 C lpC _=f;generalize hl:lpC f _=r
 obtain⟨ex,s',rfl,h2⟩:=qgz (α:=Nat) hl [3,5,8,9,10,11,12,13,14,15] (fun i=>[(7,.int .i64 i)]) (fun i=>i≤18) (fun i=>18-i) (fun i=>(signL'.drop i).find? (preB s))
  (fun ts H r ex st=>(r=none∧ex= .exit 0∧At [3,5,7,8,9,10,11,12,13,14,15] ts H [] st)∨(∃x,r=some x∧ex= .ret∧At [5,7,8,9,10,11,12,13,14,15] ts [.box (PTok.cells ⟨4,x,0,0,0⟩)] [(3,.bool true)] st)) 0 (wk _) (At.of [] (by simp only[ats,wb]) (by simp only[List.append_nil])) (by
   intro i j H d hi
   clear hl;subst hb
   by_cases hlt:i<18
   ·have e1':((i:Int)<18):=by omega
    have hx:i<signL'.length:=hlt
    have e3:(signL'.map AVal.str)[i]? =some (.str signL'[i]):=by simp[hx]
    have hxl:signL'[i].length≤qae:=by
     have:∀x∈signL',x.length≤qae:=by decide
     exact this _ (List.getElem_mem hx)
    have hst:(signL'.drop i).find? (preB s)=if preB s signL'[i]=true then some signL'[i]else(signL'.drop (i+1)).find? (preB s):=by
     rw[List.drop_eq_getElem_cons hx,List.find?_cons]
     cases preB s signL'[i]<;>rfl
    have eI:qkb PP (some (.array 18 9)) (.agg (signL'.map AVal.str)) (.int .i64 (i:Int))=some (.val (.str signL'[i]) .same):=by
     have k1:qai PP 9=some 1:=sz_9
     have k2:aggA PP 9=some false:=ag_9
     unfold qkb qby
     simp only[k1,k2,Int.toNat_natCast,Nat.mul_one,e3]
     rw[if_pos (by simp;omega)];rfl
    cases hp:preB s signL'[i]
    ·simp only[Z3,simprocAttr,effs,qh5,ty,e1',eI,c1 _ hxl _,hp,qb2 (show i≤qae by unfold qae;omega)]
     exact .inl ⟨i+1,_,rfl,hlt,At.of _ (by simp only[ats,wb]) (by simp only[we,wd,wg];rfl),by simp only[];omega,by simp only[hst,hp];rfl⟩
    ·simp only[Z3,simprocAttr,effs,qh5,ty,e1',eI,c1 _ hxl _,hp]
     exact .inr ⟨_,_,rfl,by simp,.inr ⟨signL'[i],by simp only[hst,hp,if_true],rfl,At.of _ (by simp only[ats,wb]) (by simp only[we,wd,wg];rfl)⟩⟩
   ·have e1':¬((i:Int)<18):=by omega
    have hi18:i=18:=by omega
    subst hi18
    simp only[Z3,simprocAttr,qh5,ty,e1']
    exact .inr ⟨_,_,rfl,by simp,.inl ⟨rfl,rfl,At.of _ (by simp only[ats,wb]) (by simp only[we,wd,wg];rfl)⟩⟩)
 rw[List.drop_zero]at h2
 unfold qi7
 rcases h2 with⟨hr,rfl,h2⟩|⟨x,hr,rfl,h2⟩
 ·obtain⟨j,H,d,rfl⟩:=h2.elim
  clear hl
  rw[hr]
  simp only[Z3,simprocAttr,effs,qh5,ty]
  rw[qbr _ _ _ rfl,qbs _ _ _ rfl];rfl
 ·obtain⟨j,H,d,rfl⟩:=h2.elim
  clear hl
  rw[hr]
  simp only[Z3,simprocAttr,effs,qh5,ty]
  rw[qbr _ _ _ rfl,qbs _ _ _ rfl];rfl
end Go.Ab
