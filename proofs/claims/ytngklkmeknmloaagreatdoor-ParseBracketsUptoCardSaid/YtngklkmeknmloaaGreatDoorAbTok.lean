/- The tokens that words are. -/
import Derived.Test.YtngklkmeknmloaaGreatDoorAbScan
import Derived.Test.YtngklkmeknmloaaGreatDoorAbExt
import Derived.Test.YtngklkmeknmloaaGreatDoorAbTypes
set_option linter.unusedSimpArgs false
set_option linter.unusedVariables false
set_option maxRecDepth 100000
set_option maxHeartbeats 4000000
open Bool renaming and_eq_true→wa,and_eq_false_iff→wc,false_eq_true→wd
open UInt8 renaming ofNat→wb
namespace Go.Ab
open Go Go.Ab.Tab
def qjo:Str→Int
 |[]=>4
 |c::r=>if qby c.toNat then 3 else if qdm c.toNat||qc4 c.toNat then(if wordL.any ((c::r)== ·)then 5 else if qc4 c.toNat then 2 else 1)else 4
def stpN (a:Nat) (c:UInt8):Nat:=10*a+(c.toNat-48)
def valN (a:Nat) (s:Str):Nat:=s.foldl stpN a
theorem q1g (a:Nat):valN a []=a:=rfl
theorem qsp (a:Nat) (c:UInt8) (r:Str):valN a (c::r)=valN (stpN a c) r:=List.foldl_cons
def tokW (w:Str):PTok:=⟨qjo w,w,if qjo w=3 then(valN 0 w:Int)else 0,0,0⟩
def toks (l:List Str):List PTok:=l.map tokW
theorem toks_cons (w:Str) (l:List Str):toks (w::l)=tokW w::toks l:=rfl
theorem q1h (a b:List Str):toks (a++b)=toks a++toks b:=List.map_append
theorem qop (z:Int) (h:qdm z=true):qby z=false:=by
 simp only[qdm,wa,decide_eq_true_eq]at h
 simp only[qby,wc,decide_eq_false_iff_not];omega
theorem qoq (z:Int) (h:qdm z=true):qc4 z=false:=by
 simp only[qdm,wa,decide_eq_true_eq]at h
 simp only[qc4,wc,decide_eq_false_iff_not];omega
theorem qux (z:Int) (h:qc4 z=true):qby z=false:=by
 simp only[qc4,wa,decide_eq_true_eq]at h
 simp only[qby,wc,decide_eq_false_iff_not];omega
def firstLow:Str→Bool
 |[]=>false
 |c::_=>qdm c.toNat
theorem qsq:∀x∈wordL,firstLow x=true:=by decide
theorem qsr (c:UInt8) (r:Str) (h:qc4 c.toNat=true):wordL.any ((c::r)== ·)=false:=by
 cases hh:wordL.any ((c::r)== ·)with
 |false=>rfl
 |true=>
  rw[List.any_eq_true]at hh
  obtain⟨x,hx,he⟩:=hh
  have:=qsq x hx
  rw[←eq_of_beq he]at this
  have:=qoq _ this
  rw[h]at this;cases this
theorem qf3 {p:Int→Bool} {w:Str} (h:qft p w=true):∃c r,w=c::r∧p c.toNat=true∧(c::r).length≤24∧qa1 qa5 (c::r)=(c::r).length:=by
 cases w with
 |nil=>cases h
 |cons c r=>
  simp only[qft,wa,decide_eq_true_eq,beq_iff_eq]at h
  exact⟨c,r,rfl,h.1.2,h.1.1,h.2⟩
theorem qil {w:Str} (h:qcf w=true):tokW w=⟨1,w,0,0,0⟩:=by
 simp only[qcf,wa,Bool.not_eq_true']at h
 obtain⟨h1,h2⟩:=h
 obtain⟨c,r,rfl,hc,_,_⟩:=qf3 h1
 have:qjo (c::r)=1:=by
  simp only[qjo,qop _ hc,hc,h2,qoq _ hc,Bool.true_or,if_true,wd,if_false]
 simp only[tokW,this];rfl
theorem qpr {w:Str} (h:qfb w=true):tokW w=⟨2,w,0,0,0⟩:=by
 obtain⟨c,r,rfl,hc,_,_⟩:=qf3 h
 have:qjo (c::r)=2:=by
  simp only[qjo,qux _ hc,hc,qsr c r hc,Bool.or_true,if_true,wd,if_false]
 simp only[tokW,this];rfl
def qd3 (s:Str):Bool:=s.all fun c=>qby c.toNat
theorem qor (k:Nat) (h:k<10):(wb (48+k)).toNat=48+k:=by
 simp[UInt8.toNat_ofNat'];omega
theorem digitB_of (k:Nat) (h:k<10):qby ((wb (48+k)).toNat:Nat)=true:=by
 rw[qor k h];simp only[qby,wa,decide_eq_true_eq];omega
theorem valN_app (a:Nat) (l m:Str):valN a (l++m)=valN (valN a l) m:=List.foldl_append
theorem qy5 (f n:Nat):decN (f+1) n=if n<10 then[wb (48+n)]else decN f (n/10)++[wb (48+n % 10)]:=rfl
theorem val_one (k:Nat) (h:k<10) (a:Nat):valN a [wb (48+k)]=10*a+k:=by
 rw[qsp,q1g]
 unfold stpN
 rw[qor k h];omega
theorem dig_one (k:Nat) (h:k<10):qd3 [wb (48+k)]=true:=by
 show(qby ((wb (48+k)).toNat:Nat) && true)=true
 rw[digitB_of k h];rfl
theorem dig_app (a b:Str):qd3 (a++b)=(qd3 a && qd3 b):=List.all_append
theorem q1i (f:Nat):∀n:Nat,n<10 ^ f→qd3 (decN f n)=true∧valN 0 (decN f n)=n∧(0<f→decN f n≠[]):=by
 induction f with
 |zero=>intro n h;exact⟨rfl,by rw[Nat.pow_zero]at h;show valN 0 []=n;rw[q1g];omega,fun h=>absurd h (by omega)⟩
 |succ f ih=>
  intro n h
  rw[qy5]
  by_cases hn:n<10
  ·rw[if_pos hn]
   exact⟨dig_one n hn,by rw[val_one n hn];omega,fun _=>by simp⟩
  ·rw[if_neg hn]
   have h10:n/10<10 ^ f:=by
    rw[Nat.pow_succ]at h
    exact Nat.div_lt_of_lt_mul (by rw[Nat.mul_comm];exact h)
   obtain⟨h1,h2,_⟩:=ih (n/10) h10
   have hm:n % 10<10:=Nat.mod_lt _ (by omega)
   refine⟨by rw[dig_app,h1,dig_one _ hm];rfl,?_,fun _=>by simp⟩
   rw[valN_app,h2,val_one _ hm];omega
theorem qq1 {n:Int} (h0:0≤n) (h1:n≤9223372036854775807):qd3 (decB n)=true∧(valN 0 (decB n):Int)=n∧decB n≠[]:=by
 unfold decB
 rw[if_neg (by omega)]
 have hp:(100000000000000000000:Nat)=10 ^ 20:=rfl
 obtain⟨a,b,c⟩:=q1i 20 n.toNat (by rw[←hp];omega)
 exact⟨a,by rw[b];omega,c (by omega)⟩
theorem qx6 {n:Int} (h0:0≤n) (h1:n≤9223372036854775807):tokW (decB n)=⟨3,decB n,n,0,0⟩:=by
 obtain⟨a,b,c⟩:=qq1 h0 h1
 have:qjo (decB n)=3:=by
  cases hh:decB n with
  |nil=>exact absurd hh c
  |cons x r=>
   rw[hh]at a
   simp only[qd3,List.all_cons,wa]at a
   simp only[qjo,a.1,if_true]
 simp only[tokW,this,if_true,b]
theorem qps (s:Str) (h:qa1 qa5 s=s.length):∀c∈s,c≠32:=by
 induction s with
 |nil=>intro c hc;cases hc
 |cons d r ih=>
  simp only[qa1]at h
  split at h
  ·rename_i hd
   intro c hc
   rcases List.mem_cons.1 hc with rfl|hc
   ·intro e;subst e;revert hd;decide
   ·exact ih (by simpa using h) c hc
  ·simp at h
end Go.Ab
