/- The scanner: blanks and notes. -/
import Derived.Test.YtngklkmeknmloaaGreatDoorAbEqs
import Derived.Test.YtngklkmeknmloaaGreatDoorAbScan
set_option linter.unusedSimpArgs false
set_option linter.unusedVariables false
set_option maxRecDepth 100000
set_option maxHeartbeats 4000000
open Go.Proofs
open Int renaming natCast_zero→wa
open List renaming append_assoc→wb,cons_append→wc,nil_append→wd,drop_succ_cons→we,length_drop→wg,drop_zero→wh
open Nat renaming zero_add→wi
namespace Go.Ab
section
variable {P:Program} {t:TypeId}
theorem qi6 (hu:P.underlying t=some .string) {s:List UInt8} {k:IntKind} {n:Int} (h0:0≤n) (h1:n≤s.length):qea P t (.str s) none (some (.int k n)) none=some (.str (s.take n.toNat)):=by
 have h2:qds (.int k n) s.length=some n.toNat:=by simp[qds,h0,h1]
 simp[qea,hu,h2]
theorem sl_lo (hu:P.underlying t=some .string) {s:List UInt8} {k:IntKind} {n:Int} (h0:0≤n) (h1:n≤s.length):qea P t (.str s) (some (.int k n)) none none=some (.str (s.drop n.toNat)):=by
 have h2:qds (.int k n) s.length=some n.toNat:=by simp[qds,h0,h1]
 have h3:List.take (s.length-n.toNat) (List.drop n.toNat s)=List.drop n.toNat s:=List.take_of_length_le (by simp)
 simp[qea,hu,h2,h3]
end
end Go.Ab
namespace Go.Ab
open Go Go.Ab.Tab
def qcz (z:Int):Bool:=z==32||z==9||z==10||z==13
def qd7 (z:Int):Bool:= !(z==10)
theorem blank_c (z:Int):Ret C 188 [.int .u8 z] (.bool (qcz z)):=by
 refine Ret.mk rfl rfl ?_
 rw[C_fn rfl Tryz.func188 rfl (by kernel_rfl) (m:=16) rfl];simp only[Z3,simprocAttr,Tryz.f188,qkf,qcz]
 cases h1:z==32
 ·cases h2:z==9
  ·cases h3:z==10
   ·simp only[Z3,simprocAttr,qkf,h1,h2,h3]
   ·simp only[Z3,simprocAttr,qkf,h1,h2,h3]
  ·simp only[Z3,simprocAttr,qkf,h1,h2]
 ·simp only[Z3,simprocAttr,qkf,h1]
theorem line_c (z:Int):Ret C 190 [.int .u8 z] (.bool (qd7 z)):=by
 refine Ret.mk rfl rfl ?_
 rw[C_fn rfl Tryz.func190 rfl (by kernel_rfl) (m:=4) rfl];simp only[Z3,simprocAttr,Tryz.f190,fx_190,qd7,bne]
def preB (s p:Str):Bool:=decide (p.length≤s.length) && (s.take p.length==p)
theorem hasPreA_c (s p:Str) (hs:s.length≤qae) (hp:p.length≤qae):Ret C 234 [.str s,.str p] (.bool (preB s p)):=by
 refine Ret.mk rfl rfl ?_
 by_cases h:p.length≤s.length
 ·have h1:((p.length:Int)≤(s.length:Int)):=by omega
  have h2:decide (p.length≤s.length)=true:=decide_eq_true h
  rw[C_fn rfl Tryz.func234 rfl (by kernel_rfl) (m:=16) rfl];simp only[Z3,simprocAttr,Tryz.f234,fx_234,hs,hp,h1,preB,h2,qi6]
  done
 ·have h1:¬((p.length:Int)≤(s.length:Int)):=by omega
  have h2:decide (p.length≤s.length)=false:=decide_eq_false h
  rw[C_fn rfl Tryz.func234 rfl (by kernel_rfl) (m:=16) rfl];simp only[Z3,simprocAttr,Tryz.f234,fx_234,hs,hp,h1,preB,h2]
  done
theorem qo5 (s p:Str) (hs:s.length≤qae) (hp:p.length≤qae):Ret C 189 [.str s,.str p] (.bool (preB s p)):=by
 refine Ret.mk rfl rfl ?_
 have e1:=hasPreA_c s p hs hp
 rw[C_fn rfl Tryz.func189 rfl (by kernel_rfl) (m:=6) rfl];simp only[Z3,simprocAttr,Tryz.f189,fx_189,e1 _]
theorem rest_c (text:Str) (hT:text.length≤65536) (k:Nat) (hk:k≤text.length):C 186 [.ptr 0 0] [.box (qa9 text k)]=some (.ret (.str (text.drop k)) .same):=by
 have h1:((k:Int)≤(text.length:Int)):=by omega
 rw[C_fn rfl Tryz.func186 rfl (by kernel_rfl) (m:=11) rfl];simp only[Z3,simprocAttr,Tryz.f186,fx_186,qa9,h1,sl_lo]
 rw[ql8 1 (.str (text.drop k)) _ [] (by simp) rfl];rfl
def gapS:Bool→Str→Nat
 |_,[]=>0
 |true,c::r=>if c=10 then 1+gapS false r else 1+gapS true r
 |false,c::r=>if qcz c.toNat=true then 1+gapS false r else if c=45∧r.head? =some 45 then 1+gapS true r else 0
def qd0 (s:Str):Nat:=if qat qcz s=0∧preB s [45,45]=true then qat qd7 s else qat qcz s
theorem qnz:∀s:Str,gapS false s=qat qcz s+gapS false (s.drop (qat qcz s))
 |[]=>rfl
 |c::r=>by
  by_cases h:qcz c.toNat=true
  ·simp only[gapS,qat,if_pos h,we]
   rw[qnz r];omega
  ·simp only[qat,if_neg h,wh,wi]
theorem qo6:∀s:Str,gapS true s=qat qd7 s+gapS false (s.drop (qat qd7 s))
 |[]=>rfl
 |c::r=>by
  by_cases h:c=10
  ·subst h
   have hl:qd7 ((10:UInt8).toNat:Nat)=false:=rfl
   have h0:qat qd7 (10::r)=0:=by simp only[qat,hl];rfl
   rw[h0,wh,wi];simp only[gapS,if_true];rfl
  ·have hl:qd7 c.toNat=true:=by
    have:c.toNat≠10:=fun e=>h (UInt8.toNat_inj.1 (by rw[e];rfl))
    unfold qd7;simp;omega
   simp only[gapS,qat,if_neg h,if_pos hl,we]
   rw[qo6 r];omega
theorem qmt (s:Str):preB s [45,45]=true↔∃r,s=45::45::r:=by
 unfold preB
 match s with
 |[]=>simp
 |[a]=>simp
 |a::b::r=>simp
theorem gap_step (s:Str):gapS false s=qd0 s+gapS false (s.drop (qd0 s)):=by
 unfold qd0
 split
 ·rename_i h
  obtain⟨r,rfl⟩:=(qmt s).1 h.2
  have h1:gapS false (45::45::r)=1+gapS true (45::r):=rfl
  have h2:gapS true (45::r)=1+gapS true r:=rfl
  have h3:gapS true (45::45::r)=1+gapS true (45::r):=rfl
  rw[h1,←h3];exact qo6 _
 ·exact qnz s
theorem gap_zero {s:Str} (h:qd0 s=0):gapS false s=0:=by
 unfold qd0 at h
 split at h
 ·rename_i hp
  obtain⟨r,rfl⟩:=(qmt s).1 hp.2
  have:qat qd7 (45::45::r)=qat qd7 (45::r)+1:=rfl
  omega
 ·rename_i hp
  have hp':preB s [45,45]=false:=by
   cases hq:preB s [45,45]with
   |false=>rfl
   |true=>exact absurd ⟨h,hq⟩ hp
  cases s with
  |nil=>rfl
  |cons c r=>
   have hb:¬qcz c.toNat=true:=by
    intro hb;simp only[qat,if_pos hb]at h;omega
   simp only[gapS,if_neg hb]
   rw[if_neg]
   rintro⟨rfl,hr⟩
   cases r with
   |nil=>cases hr
   |cons d t=>
    have:d=45:=by simpa using hr
    subst this
    have:=(qmt (45::45::t)).2 ⟨t,rfl⟩
    rw[hp']at this;cases this
theorem blankN_le (s:Str):qd0 s≤s.length:=by
 unfold qd0;split<;>exact qc5 _ _
theorem blanks_c (text:Str) (hT:text.length≤65536) (k:Nat) (hk:k≤text.length):qgd C 127 [.ptr 0 0] [.box (qa9 text k)] (.tuple []) [.box (qa9 text (k+gapS false (text.drop k)))]:=by
 refine C_gives rfl Tryz.func127 rfl (by kernel_rfl) (m:=20) rfl ?_;simp only[Z3,simprocAttr,Tryz.f127,qke]
 generalize hb:qar PP cmp0 C lpC _=f;generalize hl:lpC f _=r
 obtain⟨ex,s',rfl,rfl,h2⟩:=lpC_atH (α:=Nat) hl [2,3,4,5,6,7,8,9,10,11,12,13,14,15,16,17,18,19,20] (fun _=>[]) (fun i=>[.box (qa9 text i)]) (fun i=>i≤text.length) (fun i=>text.length-i) (fun i=>i+gapS false (text.drop i))
  (fun ts r ex s=>ex= .ret∧At [2,3,4,5,6,7,8,9,10,11,12,13,14,15,16,17,18,19,20] ts [.box (qa9 text r)] [] s) k hk (At.of [] (by simp only[ats,wa]) (by simp only[List.append_nil])) (by
   intro i j H d hi
   clear hl;subst hb
   obtain⟨n,hn⟩:∃n,n=qd0 (text.drop i):=⟨_,rfl⟩
   have hnl:n≤text.length-i:=by rw[hn];have:=blankN_le (text.drop i);rwa [wg]at this
   have hs:(text.drop i).length≤qae:=by rw[wg];unfold qae;omega
   have c1:=qi5 (c:=C) (b:=0) (H:= .box (qa9 text i)::H) (rest:=[]) rfl rfl rfl (rest_c text hT i hi) rfl
   have c2:=qki qcz 188 blank_c (text.drop i) hs
   have c3:=qo5 (text.drop i) [45,45] hs (by decide)
   have c4:=qki qd7 190 line_c (text.drop i) hs
   obtain⟨E,hE,hh⟩:=qkh keepC (b:=0) (H:= .box (qa9 text i)::H) (rest:=[.int .i64 n]) rfl rfl rfl rfl (skip_c text hT i n (by omega)) rfl
   have h9:(Eff.of (.box (qa9 text i)::H) E)= .box (qa9 text (i+n))::H:=hh
   have hgs:=gap_step (text.drop i)
   rw[←hn,List.drop_drop]at hgs
   have stop:n=0→i+gapS false (text.drop i)=i:=fun h=>by rw[gap_zero (by rw[←hn];exact h)];rfl
   have goes:i+n+gapS false (text.drop (i+n))=i+gapS false (text.drop i):=by rw[hgs];omega
   by_cases h0:qat qcz (text.drop i)=0
   ·have h0':((qat qcz (text.drop i):Int)==0)=true:=by rw[h0];rfl
    cases hp:preB (text.drop i) [45,45]
    ·have hn0:n=0:=by rw[hn];unfold qd0;rw[hp];simp[h0]
     simp only[Z3,simprocAttr,effs,qke,c1,c2 _,c3 _,h0',hp]
     exact .inr ⟨_,_,rfl,by simp,rfl,by rw[stop hn0];exact At.of _ (by simp only[ats,wa]) (by simp only[wc,wb,wd];rfl)⟩
    ·have hn1:qat qd7 (text.drop i)=n:=by rw[hn];unfold qd0;rw[if_pos ⟨h0,hp⟩]
     by_cases hz:n=0
     ·have hz':((n:Int)==0)=true:=by rw[hz];rfl
      rw[hn1]at c4
      simp only[Z3,simprocAttr,effs,qke,c1,c2 _,c3 _,c4 _,h0',hp,hz']
      exact .inr ⟨_,_,rfl,by simp,rfl,by rw[stop hz];exact At.of _ (by simp only[ats,wa]) (by simp only[wc,wb,wd];rfl)⟩
     ·have hz':((n:Int)==0)=false:=by simp;omega
      rw[hn1]at c4
      simp only[Z3,simprocAttr,effs,qke,c1,c2 _,c3 _,c4 _,h0',hp,hz',hE,h9]
      exact .inl ⟨i+n,_,rfl,by omega,At.of _ (by simp only[ats,wa]) (by simp only[wc,wb,wd];rfl),by omega,goes⟩
   ·have h0':((qat qcz (text.drop i):Int)==0)=false:=by simp;omega
    have hn2:qat qcz (text.drop i)=n:=by rw[hn];unfold qd0;rw[if_neg (fun h=>h0 h.1)]
    rw[hn2]at c2 h0 h0'
    simp only[Z3,simprocAttr,effs,qke,c1,c2 _,h0',hE,h9]
    exact .inl ⟨i+n,_,rfl,by omega,At.of _ (by simp only[ats,wa]) (by simp only[wc,wb,wd];rfl),by omega,goes⟩)
 obtain⟨j,H,d,rfl⟩:=h2.elim
 clear hl
 exact qo1 (.inl rfl) rfl rfl rfl (fun b hb=>by
  obtain rfl:b=0:=Nat.lt_one_iff.1 hb
  exact qny _ text _ _ _ rfl) rfl
end Go.Ab
