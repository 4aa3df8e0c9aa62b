/- What may stand in fields. -/
import Derived.Test.YtngklkmeknmloaaGreatDoorAbSize
import Derived.Test.YtngklkmeknmloaaGreatDoorAbTypes
import Derived.Test.YtngklkmeknmloaaGreatDoorAbBox
set_option linter.unusedSimpArgs false
set_option linter.unusedVariables false
set_option maxRecDepth 100000
set_option maxHeartbeats 4000000
open Go.Proofs
open List renaming drop_eq_getElem_cons→wa,drop_eq_nil_of_le→wc,length_cons→wd,drop_zero→we,any_cons→wg
open Int renaming natCast_zero→wb
open Nat renaming zero_le→wh,zero_add→wj
open Bool renaming false_or→wi,true_or→wk
namespace Go.Ab
open Go Go.Ab.Tab
def qdm (z:Int):Bool:=decide (97≤z) && decide (z≤122)
def qc4 (z:Int):Bool:=decide (65≤z) && decide (z≤90)
def qby (z:Int):Bool:=decide (48≤z) && decide (z≤57)
def qa5 (z:Int):Bool:=qdm z||qc4 z||qby z||z==95
theorem qx2 (z:Int):Ret C 194 [.int .u8 z] (.bool (qdm z)):=by
 refine Ret.mk rfl rfl ?_
 rw[C_fn rfl Tryz.func194 rfl (by kernel_rfl) (m:=8) rfl];simp only[Z3,simprocAttr,Tryz.f194,fx_194,qdm]
 cases h:decide (97≤z)<;>simp only[Z3,simprocAttr,h]
theorem qt5 (z:Int):Ret C 195 [.int .u8 z] (.bool (qc4 z)):=by
 refine Ret.mk rfl rfl ?_
 rw[C_fn rfl Tryz.func195 rfl (by kernel_rfl) (m:=8) rfl];simp only[Z3,simprocAttr,Tryz.f195,fx_195,qc4]
 cases h:decide (65≤z)<;>simp only[Z3,simprocAttr,h]
theorem qx3 (z:Int):Ret C 192 [.int .u8 z] (.bool (qby z)):=by
 refine Ret.mk rfl rfl ?_
 rw[C_fn rfl Tryz.func192 rfl (by kernel_rfl) (m:=8) rfl];simp only[Z3,simprocAttr,Tryz.f192,fx_192,qby]
 cases h:decide (48≤z)<;>simp only[Z3,simprocAttr,h]
theorem qx4 (z:Int):Ret C 237 [.int .u8 z] (.bool (qa5 z)):=by
 refine Ret.mk rfl rfl ?_
 have e1:=qx2 z
 have e2:=qt5 z
 have e3:=qx3 z
 rw[C_fn rfl Tryz.func237 rfl (by kernel_rfl) (m:=16) rfl];simp only[Z3,simprocAttr,Tryz.f237,fx_237,e1 _,qa5]
 cases h:qdm z
 ·cases h2:qc4 z
  ·cases h3:qby z<;>simp only[Z3,simprocAttr,h,h2,h3,e2 _,e3 _]
  ·simp only[Z3,simprocAttr,h,h2,e2 _]
 ·simp only[Z3,simprocAttr,h]
def qa1 (p:Int→Bool):Str→Nat
 |[]=>0
 |c::r=>if p c.toNat then qa1 p r+1 else 0
theorem qg4 (p:Int→Bool):∀s:Str,qa1 p s≤s.length
 |[]=>Nat.le_refl _
 |c::r=>by
  have:=qg4 p r
  simp only[qa1,wd]
  split<;>omega
theorem qpq (p:Int→Bool) (f:FuncId) (hp:∀z,Ret C f [.int .u8 z] (.bool (p z))) (s:Str) (hs:s.length≤qac):Ret C 187 [.str s,.func f [] []] (.int .i64 (qa1 p s)):=by
 refine Ret.mk rfl rfl ?_
 rw[C_fn rfl Tryz.func187 rfl (by kernel_rfl) (m:=19) rfl];simp only[Z3,simprocAttr,Tryz.f187,qw0,hs]
 generalize hb:qam PP cmp0 C lpC _=f;generalize hl:lpC f _=r
 obtain⟨ex,s',rfl,h2⟩:=qc3 (α:=Nat) hl [4,5,9,10,11,12,13,14,15,16,17,18] (fun i=>[(8,.int .i64 i)]) (fun i=>i≤s.length) (fun i=>s.length-i) (fun i=>i+qa1 p (s.drop i))
  (fun ts H r ex st=>(ex= .exit 0∧r=s.length∧At [4,5,8,9,10,11,12,13,14,15,16,17,18] ts H [] st)∨(ex= .ret∧At [5,8,9,10,11,12,13,14,15,16,17,18] ts H [(4,.int .i64 r)] st)) 0 (wh _) (by simp only[At,ats,wb]) (by
   intro i j H d hi
   clear hl;subst hb
   by_cases hlt:i<s.length
   ·have e1:((i:Int)<(s.length:Int)):=by omega
    have e3:s[i]? =some s[i]:=by simp[hlt]
    have e5:=hp s[i].toNat
    simp only[Z3,simprocAttr,qw0,e1,e3,e5 _]
    cases hc:p s[i].toNat
    ·simp only[Z3,simprocAttr]
     exact .inr ⟨_,_,rfl,by simp,.inr ⟨rfl,by simp only[wa hlt,qa1,hc,At,ats];rfl⟩⟩
    ·simp only[Z3,simprocAttr,qav (show i≤qac by omega)]
     exact .inl ⟨i+1,_,rfl,hlt,by simp only[At,ats,wb],by simp only[];omega,by simp only[wa hlt,qa1,hc,if_true];omega⟩
   ·have e1:¬((i:Int)<(s.length:Int)):=by omega
    simp only[Z3,simprocAttr,qw0,e1]
    exact .inr ⟨_,_,rfl,by simp,.inl ⟨rfl,by simp only[];rw[wc (by omega)];simp only[qa1];omega,by simp only[At,ats,wb]⟩⟩)
 rw[we,wj]at h2
 rcases h2 with⟨rfl,hr,h2⟩|⟨rfl,h2⟩
 ·obtain⟨j,H,d,rfl⟩:=h2.elim
  clear hl
  simp only[Z3,simprocAttr,qw0,hr,hs]
 ·obtain⟨j,H,d,rfl⟩:=h2.elim
  clear hl
  simp only[Z3,simprocAttr]
def wordL:List Str:=[[116,121,112,101],[110,111,100,101],[119,104,101,114,101],[101,110,100],[97,117,116,111,109,97,116,111,110],[115,116,97,116,101],[117,110,116,105,108],[116,104,101,110],[105,102],[101,108,115,101],[102,98,121],[112,114,101],[110,111,116],[97,110,100],[111,114],[119,104,101,110],[109,101,114,103,101],[109,97,116,99,104],[101,118,101,114,121],[116,114,117,101],[102,97,108,115,101]]
theorem words_c:Ret C 267 [] (qaf wordL):=Ret.mk rfl rfl (C_of (n:=5) (by kernel_rfl))
theorem rwords_c:Ret C 211 [] (qaf wordL):=Ret.mk rfl rfl (C_of (n:=5) (by kernel_rfl))
def idxN (s:Str):List Str→Nat→Int
 |[],_=> -1
 |x::r,i=>if s==x then(i:Int)else idxN s r (i+1)
theorem qvg (s:Str):∀(l:List Str) (i:Nat),decide (0≤idxN s l i)=l.any (s== ·)
 |[],i=>by simp[idxN]
 |x::r,i=>by
  by_cases h:(s==x)=true
  ·simp only[idxN,wg,h,if_true,wk]
   exact decide_eq_true (Int.natCast_nonneg i)
  ·have h':(s==x)=false:=by simpa using h
   simp only[idxN,wg,h',wi]
   exact qvg s r (i+1)
theorem index_c (l:List Str) (s:Str) (hl:l.length≤qac):Ret C 260 [qaf l,.str s] (.int .i64 (idxN s l 0)):=by
 refine Ret.mk rfl rfl ?_
 rw[C_fn rfl Tryz.func260 rfl (by kernel_rfl) (m:=17) rfl];simp only[Z3,simprocAttr,Tryz.f260,qpl,qaf]
 generalize hb:qam PP cmp0 C lpC _=f;generalize hl0:lpC f _=r
 obtain⟨ex,s',rfl,h2⟩:=qc3 (α:=Nat) hl0 [4,5,9,10,11,12,13,14,15,16,17,18] (fun i=>[(8,.int .i64 i)]) (fun i=>i≤l.length) (fun i=>l.length-i) (fun i=>idxN s (l.drop i) i)
  (fun ts H r ex st=>(ex= .exit 0∧r= -1∧At [4,5,8,9,10,11,12,13,14,15,16,17,18] ts H [] st)∨(ex= .ret∧At [5,8,9,10,11,12,13,14,15,16,17,18] ts H [(4,.int .i64 r)] st)) 0 (wh _) (by simp only[At,ats,wb]) (by
   intro i j H d hi
   clear hl0;subst hb
   by_cases hlt:i<l.length
   ·have e1:((i:Int)<(l.length:Int)):=by omega
    have e3:=qg3 l i hlt
    simp only[Z3,simprocAttr,qpl,e1,e3]
    cases hc:s==l[i]
    ·simp only[Z3,simprocAttr,qav (show i≤qac by omega)]
     exact .inl ⟨i+1,_,rfl,hlt,by simp only[At,ats,wb],by simp only[];omega,by simp only[wa hlt,idxN,hc];rfl⟩
    ·simp only[Z3,simprocAttr]
     exact .inr ⟨_,_,rfl,by simp,.inr ⟨rfl,by simp only[wa hlt,idxN,hc,if_true,At,ats]⟩⟩
   ·have e1:¬((i:Int)<(l.length:Int)):=by omega
    simp only[Z3,simprocAttr,qpl,e1]
    exact .inr ⟨_,_,rfl,by simp,.inl ⟨rfl,by simp only[];rw[wc (by omega)];rfl,by simp only[At,ats,wb]⟩⟩)
 rw[we]at h2
 rcases h2 with⟨rfl,hr,h2⟩|⟨rfl,h2⟩
 ·obtain⟨j,H,d,rfl⟩:=h2.elim
  clear hl0
  simp only[Z3,simprocAttr,hr]
 ·obtain⟨j,H,d,rfl⟩:=h2.elim
  clear hl0
  simp only[Z3,simprocAttr]
theorem q4w (l:List Str) (s:Str) (hl:l.length≤qac):Ret C 230 [qaf l,.str s] (.bool (l.any (s== ·))):=by
 refine Ret.mk rfl rfl ?_
 have e1:=index_c l s hl
 rw[C_fn rfl Tryz.func230 rfl (by kernel_rfl) (m:=7) rfl];simp only[Z3,simprocAttr,Tryz.f230,fx_230,e1 _,qvg]
theorem q1b (s:Str):Ret C 238 [.str s] (.bool (wordL.any (s== ·))):=by
 refine Ret.mk rfl rfl ?_
 have e0:=words_c
 have e1:=q4w wordL s (by decide)
 rw[C_fn rfl Tryz.func238 rfl (by kernel_rfl) (m:=5) rfl];simp only[Z3,simprocAttr,Tryz.f238,fx_238,e0 _,e1 _]
def qft (p:Int→Bool):Str→Bool
 |[]=>false
 |c::r=>decide ((c::r).length≤24) && p c.toNat && (qa1 qa5 (c::r)==(c::r).length)
theorem int_dec (a b:Nat):decide ((a:Int)≤(b:Int))=decide (a≤b):=by
 by_cases h:a≤b
 ·rw[decide_eq_true h,decide_eq_true (by omega)]
 ·rw[decide_eq_false h,decide_eq_false (by omega)]
theorem qt6 (a b:Nat):((a:Int)==(b:Int))=(a==b):=by
 by_cases h:a=b
 ·subst h;simp
 ·have h1:((a:Int)==(b:Int))=false:=by simp;omega
  have h2:(a==b)=false:=by simpa using h
  rw[h1,h2]
theorem q1c (p:Int→Bool) (f:FuncId) (hp:∀z,Ret C f [.int .u8 z] (.bool (p z))) (s:Str) (hs:s.length≤qac):Ret C 239 [.str s,.func f [] []] (.bool (qft p s)):=by
 refine Ret.mk rfl rfl ?_
 have e1:=qpq qa5 237 qx4 s hs
 cases s with
 |nil=>rw[C_fn rfl Tryz.func239 rfl (by kernel_rfl) (m:=23) rfl];simp only[Z3,simprocAttr,Tryz.f239,qsj,qft]
 |cons c r=>
  have e2:=hp c.toNat
  have e3:((c::r)==([]:Str))=false:=rfl
  have e4:decide (((r.length+1:Nat):Int)≤24)=decide (r.length+1≤24):=int_dec (r.length+1) 24
  have e5:=qt6 (qa1 qa5 (c::r)) (c::r).length
  have hs':=hs
  simp only[wd]at e5 hs'
  rw[C_fn rfl Tryz.func239 rfl (by kernel_rfl) (m:=23) rfl];simp only[Z3,simprocAttr,Tryz.f239,qsj,e3,e4,qft,hs',hs]
  cases h1:decide (r.length≤23)
  ·simp only[Z3,simprocAttr,qsj,h1]
  cases h2:p c.toNat
  ·simp only[Z3,simprocAttr,qsj,h1,h2,e2 _]
  ·simp only[Z3,simprocAttr,qsj,h1,h2,e2 _,e1 _,hs',e5]
def qcf (s:Str):Bool:=qft qdm s && !(wordL.any (s== ·))
def qfb (s:Str):Bool:=qft qc4 s
theorem isName_c (s:Str) (hs:s.length≤qac):Ret C 201 [.str s] (.bool (qcf s)):=by
 refine Ret.mk rfl rfl ?_
 have e1:=q1c qdm 194 qx2 s hs
 have e2:=q1b s
 rw[C_fn rfl Tryz.func201 rfl (by kernel_rfl) (m:=9) rfl];simp only[Z3,simprocAttr,Tryz.f201,fx_201,e1 _,qcf]
 cases h1:qft qdm s
 ·simp only[Z3,simprocAttr,fx_201,h1]
 ·simp only[Z3,simprocAttr,fx_201,h1,e2 _]
theorem isCon_c (s:Str) (hs:s.length≤qac):Ret C 205 [.str s] (.bool (qfb s)):=by
 refine Ret.mk rfl rfl ?_
 have e1:=q1c qc4 195 qt5 s hs
 rw[C_fn rfl Tryz.func205 rfl (by kernel_rfl) (m:=4) rfl];simp only[Z3,simprocAttr,Tryz.f205,fx_205,e1 _,qfb]
end Go.Ab
namespace Go.Ab
open Go Go.Ab.Tab
theorem small_c (z:Int):Ret C 146 [.int .u8 z] (.bool (qdm z)):=by
 refine Ret.mk rfl rfl ?_
 rw[C_fn rfl Tryz.func146 rfl (by kernel_rfl) (m:=8) rfl];simp only[Z3,simprocAttr,Tryz.f146,fx_146,qdm]
 cases h:decide (97≤z)<;>simp only[Z3,simprocAttr,h]
theorem great_c (z:Int):Ret C 222 [.int .u8 z] (.bool (qc4 z)):=by
 refine Ret.mk rfl rfl ?_
 rw[C_fn rfl Tryz.func222 rfl (by kernel_rfl) (m:=8) rfl];simp only[Z3,simprocAttr,Tryz.f222,fx_222,qc4]
 cases h:decide (65≤z)<;>simp only[Z3,simprocAttr,h]
theorem rdigit_c (z:Int):Ret C 144 [.int .u8 z] (.bool (qby z)):=by
 refine Ret.mk rfl rfl ?_
 rw[C_fn rfl Tryz.func144 rfl (by kernel_rfl) (m:=8) rfl];simp only[Z3,simprocAttr,Tryz.f144,fx_144,qby]
 cases h:decide (48≤z)<;>simp only[Z3,simprocAttr,h]
theorem more_c (z:Int):Ret C 210 [.int .u8 z] (.bool (qa5 z)):=by
 refine Ret.mk rfl rfl ?_
 have e1:=small_c z
 have e2:=great_c z
 have e3:=rdigit_c z
 rw[C_fn rfl Tryz.func210 rfl (by kernel_rfl) (m:=16) rfl];simp only[Z3,simprocAttr,Tryz.f210,fx_210,e1 _,qa5]
 cases h:qdm z
 ·cases h2:qc4 z
  ·cases h3:qby z<;>simp only[Z3,simprocAttr,h,h2,h3,e2 _,e3 _]
  ·simp only[Z3,simprocAttr,h,h2,e2 _]
 ·simp only[Z3,simprocAttr,h]
theorem run_c (s:Str) (hs:s.length≤qac):Ret C 143 [.str s] (.int .i64 (qa1 qa5 s)):=by
 refine Ret.mk rfl rfl ?_
 rw[C_fn rfl Tryz.func143 rfl (by kernel_rfl) (m:=16) rfl];simp only[Z3,simprocAttr,Tryz.f143,fx_143,hs]
 generalize hb:qam PP cmp0 C lpC _=f;generalize hl:lpC f _=r
 obtain⟨ex,s',rfl,rfl,h2⟩:=qc3 (α:=Nat) hl [4,5,6,7,8,9,10,11,12,13,14,15] (fun i=>[(3,.int .i64 i)]) (fun i=>i≤s.length) (fun i=>s.length-i) (fun i=>i+qa1 qa5 (s.drop i))
  (fun ts H r ex st=>ex= .exit 0∧At [4,5,6,7,8,9,10,11,12,13,14,15] ts H [(3,.int .i64 r)] st) 0 (wh _) (by simp only[At,ats,wb]) (by
   intro i j H d hi
   clear hl;subst hb
   by_cases hlt:i<s.length
   ·have e1:((i:Int)<(s.length:Int)):=by omega
    have e3:s[i]? =some s[i]:=by simp[hlt]
    have e5:=more_c s[i].toNat
    simp only[Z3,simprocAttr,fx_143,hs,e1,e3,e5 _]
    cases hc:qa5 s[i].toNat
    ·simp only[Z3,simprocAttr]
     exact .inr ⟨_,_,rfl,by simp,rfl,by simp only[wa hlt,qa1,hc,At,ats];rfl⟩
    ·simp only[Z3,simprocAttr,qav (show i≤qac by omega)]
     exact .inl ⟨i+1,_,rfl,hlt,by simp only[At,ats,wb],by simp only[];omega,by simp only[wa hlt,qa1,hc,if_true];omega⟩
   ·have e1:¬((i:Int)<(s.length:Int)):=by omega
    have e2:i=s.length:=by omega
    simp only[Z3,simprocAttr,fx_143,hs,e1]
    subst e2
    exact .inr ⟨_,_,rfl,by simp,rfl,by simp only[List.drop_length,qa1,Nat.add_zero,At,ats]⟩)
 rw[we,wj]at h2
 obtain⟨j,H,d,rfl⟩:=h2.elim
 clear hl
 simp only[Z3,simprocAttr]
theorem has_c (l:List Str) (s:Str) (hl:l.length≤qac):Ret C 110 [qaf l,.str s] (.bool (l.any (· ==s))):=by
 refine Ret.mk rfl rfl ?_
 rw[C_fn rfl Tryz.func110 rfl (by kernel_rfl) (m:=16) rfl];simp only[Z3,simprocAttr,Tryz.f110,qpe,qaf]
 generalize hb:qam PP cmp0 C lpC _=f;generalize hl0:lpC f _=r
 obtain⟨ex,s',rfl,h2⟩:=qc3 (α:=Nat) hl0 [4,6,7,8,9,10,11,12,13,14,15,16,17] (fun i=>[(5,.int .i64 i)]) (fun i=>i≤l.length) (fun i=>l.length-i) (fun i=>(l.drop i).any (· ==s))
  (fun ts H r ex st=>(r=false∧ex= .exit 0∧At [4,5,6,7,8,9,10,11,12,13,14,15,16,17] ts H [] st)∨(r=true∧ex= .ret∧At [5,6,7,8,9,10,11,12,13,14,15,16,17] ts H [(4,.bool true)] st)) 0 (wh _) (by simp only[At,ats,wb]) (by
   intro i j H d hi
   clear hl0;subst hb
   by_cases hlt:i<l.length
   ·have e1:((i:Int)<(l.length:Int)):=by omega
    have e3:=qg3 l i hlt
    simp only[Z3,simprocAttr,qpe,e1,e3]
    cases hc:l[i]==s
    ·simp only[Z3,simprocAttr,qav (show i≤qac by omega)]
     exact .inl ⟨i+1,_,rfl,hlt,by simp only[At,ats,wb],by simp only[];omega,by simp only[wa hlt,wg,hc,wi]⟩
    ·simp only[Z3,simprocAttr]
     exact .inr ⟨_,_,rfl,by simp,.inr ⟨by simp only[wa hlt,wg,hc,wk],rfl,by simp only[At,ats,wb]⟩⟩
   ·have e1:¬((i:Int)<(l.length:Int)):=by omega
    simp only[Z3,simprocAttr,qpe,e1]
    exact .inr ⟨_,_,rfl,by simp,.inl ⟨by simp only[];rw[wc (by omega)];rfl,rfl,by simp only[At,ats,wb]⟩⟩)
 rw[we]at h2
 rcases h2 with⟨hr,rfl,h2⟩|⟨hr,rfl,h2⟩
 ·obtain⟨j,H,d,rfl⟩:=h2.elim
  clear hl0
  simp only[Z3,simprocAttr,hr]
 ·obtain⟨j,H,d,rfl⟩:=h2.elim
  clear hl0
  simp only[Z3,simprocAttr,hr]
theorem any_comm (l:List Str) (s:Str):l.any (· ==s)=l.any (s== ·):=by
 congr 1;funext x;exact Bool.beq_comm
theorem len0:decide ((1:Int)≤((0:Nat):Int))=false:=by decide
theorem qy4 (n:Nat):decide (((n+1:Nat):Int)≤24)=decide (n≤23):=by
 by_cases h:n≤23
 ·rw[decide_eq_true h,decide_eq_true (by omega)]
 ·rw[decide_eq_false h,decide_eq_false (by omega)]
theorem risName_c (s:Str) (hs:s.length≤qac):Ret C 161 [.str s] (.bool (qcf s)):=by
 refine Ret.mk rfl rfl ?_
 have e1:=run_c s hs
 have e6:=rwords_c
 have e7:=has_c wordL s (by decide)
 rw[any_comm]at e7
 cases s with
 |nil=>rw[C_fn rfl Tryz.func161 rfl (by kernel_rfl) (m:=28) rfl];simp only[Z3,simprocAttr,Tryz.f161,qph,qcf,qft,len0]
 |cons c r=>
  have e2:=small_c c.toNat
  have e5:=qt6 (qa1 qa5 (c::r)) (c::r).length
  have e8:decide (((1:Int))≤((r.length+1:Nat):Int))=true:=decide_eq_true (by omega)
  have hs':=hs
  simp only[wd]at e5 hs'
  rw[C_fn rfl Tryz.func161 rfl (by kernel_rfl) (m:=28) rfl];simp only[Z3,simprocAttr,Tryz.f161,qph,qcf,qft,qy4,hs',e8]
  cases h1:decide (r.length≤23)
  ·simp only[Z3,simprocAttr,qph,h1]
  cases h2:qdm c.toNat
  ·simp only[Z3,simprocAttr,qph,h1,h2,e2 _]
  cases h3:qa1 qa5 (c::r)==r.length+1
  ·simp only[Z3,simprocAttr,qph,h1,h2,h3,e2 _,e1 _,hs',e5]
  ·simp only[Z3,simprocAttr,qph,h1,h2,h3,e2 _,e1 _,hs',e5,e6 _,e7 _]
theorem risCon_c (s:Str) (hs:s.length≤qac):Ret C 160 [.str s] (.bool (qfb s)):=by
 refine Ret.mk rfl rfl ?_
 have e1:=run_c s hs
 cases s with
 |nil=>rw[C_fn rfl Tryz.func160 rfl (by kernel_rfl) (m:=22) rfl];simp only[Z3,simprocAttr,Tryz.f160,qpg,qfb,qft,len0]
 |cons c r=>
  have e2:=great_c c.toNat
  have e5:=qt6 (qa1 qa5 (c::r)) (c::r).length
  have e8:decide (((1:Int))≤((r.length+1:Nat):Int))=true:=decide_eq_true (by omega)
  have hs':=hs
  simp only[wd]at e5 hs'
  rw[C_fn rfl Tryz.func160 rfl (by kernel_rfl) (m:=22) rfl];simp only[Z3,simprocAttr,Tryz.f160,qpg,qfb,qft,qy4,hs',e8]
  cases h1:decide (r.length≤23)
  ·simp only[Z3,simprocAttr,qpg,h1]
  cases h2:qc4 c.toNat
  ·simp only[Z3,simprocAttr,qpg,h1,h2,e2 _]
  cases h3:qa1 qa5 (c::r)==r.length+1
  ·simp only[Z3,simprocAttr,qpg,h1,h2,h3,e2 _,e1 _,hs',e5]
  ·simp only[Z3,simprocAttr,qpg,h1,h2,h3,e2 _,e1 _,hs',e5]
end Go.Ab
namespace Go.Ab
open Go Go.Ab.Tab
theorem all1_c (g:FuncId) (fst:List AVal) (s:Str) (b:Bool) (hp:Ret C g (fst++[.str s]) (.bool b)):
 C 204 [.str s,.ptr 0 0] [.box [.func g fst []]]=some (.ret (.bool (!b)) .same):=by
 rw[C_fn rfl Tryz.func204 rfl (by kernel_rfl) (m:=6) rfl];simp only[Z3,simprocAttr,Tryz.f204,fx_204,List.append_nil,hp _,qa3 1 _ _ [] (by simp)]
theorem all_c (l:List Str) (hl:l.length≤qac) (least most:Int) (g:FuncId) (fst:List AVal) (hf:qad fst=[]) (p:Str→Bool) (hp:∀x∈l,Ret C g (fst++[.str x]) (.bool (p x))):
 Ret C 138 [qaf l,.int .i64 least,.int .i64 most,.func g fst []] (.bool (decide (least≤l.length) && decide ((l.length:Int)≤most) && !l.any fun s=> !p s)):=by
 refine Ret.mk (by simp[qad,refs,hf,qaf]) rfl ?_
 have e1:=qx1 l hl 204 [.func g fst []] (by simp[qad,refs,hf]) (fun s=> !p s) (fun x hx H=>
  qbd (b:=0) _ rfl rfl (by simp[qad,refs,hf]) (all1_c g fst x (p x) (hp x hx)) rfl)
 have e2:∀H,qah C (.box [.func g fst []]::H) 203 [.slice (l.map fun s=>[.str s]) .free,.func 204 [] [.ptr 0 0]]=some (.ret (.bool (l.any fun s=> !p s)) .same):=fun H=>
  qbd (b:=0) _ rfl rfl (by simp[qad,refs,hf]) e1 rfl
 rw[C_fn rfl Tryz.func138 rfl (by kernel_rfl) (m:=21) rfl];simp only[Z3,simprocAttr,Tryz.f138,qja,qaf]
 cases h1:decide (least≤(l.length:Int))
 ·simp only[Z3,simprocAttr,qja,h1]
 cases h2:decide ((l.length:Int)≤most)
 ·simp only[Z3,simprocAttr,qja,h1,h2]
 ·simp only[Z3,simprocAttr,qja,h1,h2,e2]
end Go.Ab
