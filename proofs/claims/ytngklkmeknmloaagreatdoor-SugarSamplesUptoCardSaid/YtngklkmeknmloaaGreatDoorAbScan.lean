/- The scanner: going on in a text. -/
import Derived.Test.YtngklkmeknmloaaGreatDoorAbSame
import Derived.Test.YtngklkmeknmloaaGreatDoorAbTypes
import Derived.Test.YtngklkmeknmloaaGreatDoorAbEffB
import Derived.Test.YtngklkmeknmloaaGreatDoorAbObj
set_option linter.unusedSimpArgs false
set_option linter.unusedVariables false
set_option maxRecDepth 100000
set_option maxHeartbeats 4000000
open Go.Proofs
open Int renaming natCast_zero→wa
open List renaming drop_eq_getElem_cons→wb,append_assoc→wc,cons_append→wd,nil_append→we,drop_eq_nil_of_le→wg,length_cons→wj,drop_zero→wl,any_cons→wm
open Nat renaming sub_lt_sub_left→wh,zero_le→wi,lt_succ_self→wk
namespace Go.Ab
open Go Go.Ab.Tab
def qfz (z:Int):Bool:=decide (97≤z) && decide (z≤122)
def qdm (z:Int):Bool:=decide (65≤z) && decide (z≤90)
def qbf (z:Int):Bool:=decide (48≤z) && decide (z≤57)
def qb3 (z:Int):Bool:=qfz z||qdm z||qbf z||z==95
theorem lower_c (z:Int):Ret C 194 [.int .u8 z] (.bool (qfz z)):=by
 refine Ret.mk rfl rfl ?_
 rw[C_fn rfl Tryz.func194 rfl (by kernel_rfl) (m:=8) rfl];simp only[Z3,simprocAttr,Tryz.f194,fx_194,qfz]
 cases h:decide (97≤z)<;>simp only[Z3,simprocAttr,h]
theorem qoc (z:Int):Ret C 195 [.int .u8 z] (.bool (qdm z)):=by
 refine Ret.mk rfl rfl ?_
 rw[C_fn rfl Tryz.func195 rfl (by kernel_rfl) (m:=8) rfl];simp only[Z3,simprocAttr,Tryz.f195,fx_195,qdm]
 cases h:decide (65≤z)<;>simp only[Z3,simprocAttr,h]
theorem qod (z:Int):Ret C 192 [.int .u8 z] (.bool (qbf z)):=by
 refine Ret.mk rfl rfl ?_
 rw[C_fn rfl Tryz.func192 rfl (by kernel_rfl) (m:=8) rfl];simp only[Z3,simprocAttr,Tryz.f192,fx_192,qbf]
 cases h:decide (48≤z)<;>simp only[Z3,simprocAttr,h]
theorem inner_c (z:Int):Ret C 237 [.int .u8 z] (.bool (qb3 z)):=by
 refine Ret.mk rfl rfl ?_
 have e1:=lower_c z
 have e2:=qoc z
 have e3:=qod z
 rw[C_fn rfl Tryz.func237 rfl (by kernel_rfl) (m:=16) rfl];simp only[Z3,simprocAttr,Tryz.f237,fx_237,e1 _,qb3]
 cases h:qfz z
 ·cases h2:qdm z
  ·cases h3:qbf z<;>simp only[Z3,simprocAttr,h,h2,h3,e2 _,e3 _]
  ·simp only[Z3,simprocAttr,h,h2,e2 _]
 ·simp only[Z3,simprocAttr,h]
def qat (p:Int→Bool):Str→Nat
 |[]=>0
 |c::r=>if p c.toNat then qat p r+1 else 0
theorem qc5 (p:Int→Bool):∀s:Str,qat p s≤s.length
 |[]=>Nat.le_refl _
 |c::r=>by
  have:=qc5 p r
  simp only[qat,wj]
  split<;>omega
theorem qki (p:Int→Bool) (f:FuncId) (hp:∀z,Ret C f [.int .u8 z] (.bool (p z))) (s:Str) (hs:s.length≤qae):Ret C 187 [.str s,.func f [] []] (.int .i64 (qat p s)):=by
 refine Ret.mk rfl rfl ?_
 rw[C_fn rfl Tryz.func187 rfl (by kernel_rfl) (m:=19) rfl];simp only[Z3,simprocAttr,Tryz.f187,qnt,hs]
 generalize hb:qar PP cmp0 C lpC _=f;generalize hl:lpC f _=r
 obtain⟨ex,s',rfl,h2⟩:=qgz (α:=Nat) hl [4,5,9,10,11,12,13,14,15,16,17,18] (fun i=>[(8,.int .i64 i)]) (fun i=>i≤s.length) (fun i=>s.length-i) (fun i=>i+qat p (s.drop i))
  (fun ts H r ex st=>(ex= .exit 0∧r=s.length∧At [4,5,8,9,10,11,12,13,14,15,16,17,18] ts H [] st)∨(ex= .ret∧At [5,8,9,10,11,12,13,14,15,16,17,18] ts H [(4,.int .i64 r)] st)) 0 (wi _) (by simp only[At,ats,wa]) (by
   intro i j H d hi
   clear hl;subst hb
   by_cases hlt:i<s.length
   ·have e1:((i:Int)<(s.length:Int)):=by omega
    have e3:s[i]? =some s[i]:=by simp[hlt]
    have e5:=hp s[i].toNat
    simp only[Z3,simprocAttr,qnt,e1,e3,e5 _]
    cases hc:p s[i].toNat
    ·simp only[Z3,simprocAttr]
     exact .inr ⟨_,_,rfl,by simp,.inr ⟨rfl,by simp only[wb hlt,qat,hc,At,ats];rfl⟩⟩
    ·simp only[Z3,simprocAttr,qb2 (show i≤qae by omega)]
     exact .inl ⟨i+1,_,rfl,hlt,by simp only[At,ats,wa],by simp only[];omega,by simp only[wb hlt,qat,hc,if_true];omega⟩
   ·have e1:¬((i:Int)<(s.length:Int)):=by omega
    simp only[Z3,simprocAttr,qnt,e1]
    exact .inr ⟨_,_,rfl,by simp,.inl ⟨rfl,by simp only[];rw[wg (by omega)];simp only[qat];omega,by simp only[At,ats,wa]⟩⟩)
 rw[wl,Nat.zero_add]at h2
 rcases h2 with⟨rfl,hr,h2⟩|⟨rfl,h2⟩
 ·obtain⟨j,H,d,rfl⟩:=h2.elim
  clear hl
  simp only[Z3,simprocAttr,qnt,hr,hs]
 ·obtain⟨j,H,d,rfl⟩:=h2.elim
  clear hl
  simp only[Z3,simprocAttr]
def wordL:List Str:=[[116,121,112,101],[110,111,100,101],[119,104,101,114,101],[101,110,100],[97,117,116,111,109,97,116,111,110],[115,116,97,116,101],[117,110,116,105,108],[116,104,101,110],[105,102],[101,108,115,101],[102,98,121],[112,114,101],[110,111,116],[97,110,100],[111,114],[119,104,101,110],[109,101,114,103,101],[109,97,116,99,104],[101,118,101,114,121],[116,114,117,101],[102,97,108,115,101]]
theorem words_c:Ret C 267 [] (qah wordL):=Ret.mk rfl rfl (C_of (n:=5) (by kernel_rfl))
def idxN (s:Str):List Str→Nat→Int
 |[],_=> -1
 |x::r,i=>if s==x then(i:Int)else idxN s r (i+1)
theorem qqy (s:Str):∀(l:List Str) (i:Nat),decide (0≤idxN s l i)=l.any (s== ·)
 |[],i=>by simp[idxN]
 |x::r,i=>by
  by_cases h:(s==x)=true
  ·simp only[idxN,wm,h,if_true,Bool.true_or]
   exact decide_eq_true (Int.natCast_nonneg i)
  ·have h':(s==x)=false:=by simpa using h
   simp only[idxN,wm,h',Bool.false_or]
   exact qqy s r (i+1)
theorem index_c (l:List Str) (s:Str) (hl:l.length≤qae):Ret C 260 [qah l,.str s] (.int .i64 (idxN s l 0)):=by
 refine Ret.mk rfl rfl ?_
 rw[C_fn rfl Tryz.func260 rfl (by kernel_rfl) (m:=17) rfl];simp only[Z3,simprocAttr,Tryz.f260,fx_260,qah]
 generalize hb:qar PP cmp0 C lpC _=f;generalize hl0:lpC f _=r
 obtain⟨ex,s',rfl,h2⟩:=qgz (α:=Nat) hl0 [4,5,9,10,11,12,13,14,15,16,17,18] (fun i=>[(8,.int .i64 i)]) (fun i=>i≤l.length) (fun i=>l.length-i) (fun i=>idxN s (l.drop i) i)
  (fun ts H r ex st=>(ex= .exit 0∧r= -1∧At [4,5,8,9,10,11,12,13,14,15,16,17,18] ts H [] st)∨(ex= .ret∧At [5,8,9,10,11,12,13,14,15,16,17,18] ts H [(4,.int .i64 r)] st)) 0 (wi _) (by simp only[At,ats,wa]) (by
   intro i j H d hi
   clear hl0;subst hb
   by_cases hlt:i<l.length
   ·have e1:((i:Int)<(l.length:Int)):=by omega
    have e3:=qms l i hlt
    simp only[Z3,simprocAttr,fx_260,e1,e3]
    cases hc:s==l[i]
    ·simp only[Z3,simprocAttr,qb2 (show i≤qae by omega)]
     exact .inl ⟨i+1,_,rfl,hlt,by simp only[At,ats,wa],by simp only[];omega,by simp only[wb hlt,idxN,hc];rfl⟩
    ·simp only[Z3,simprocAttr]
     exact .inr ⟨_,_,rfl,by simp,.inr ⟨rfl,by simp only[wb hlt,idxN,hc,if_true,At,ats]⟩⟩
   ·have e1:¬((i:Int)<(l.length:Int)):=by omega
    simp only[Z3,simprocAttr,fx_260,e1]
    exact .inr ⟨_,_,rfl,by simp,.inl ⟨rfl,by simp only[];rw[wg (by omega)];rfl,by simp only[At,ats,wa]⟩⟩)
 rw[wl]at h2
 rcases h2 with⟨rfl,hr,h2⟩|⟨rfl,h2⟩
 ·obtain⟨j,H,d,rfl⟩:=h2.elim
  clear hl0
  simp only[Z3,simprocAttr,hr]
 ·obtain⟨j,H,d,rfl⟩:=h2.elim
  clear hl0
  simp only[Z3,simprocAttr]
theorem qtr (l:List Str) (s:Str) (hl:l.length≤qae):Ret C 230 [qah l,.str s] (.bool (l.any (s== ·))):=by
 refine Ret.mk rfl rfl ?_
 have e1:=index_c l s hl
 rw[C_fn rfl Tryz.func230 rfl (by kernel_rfl) (m:=7) rfl];simp only[Z3,simprocAttr,Tryz.f230,fx_230,e1 _,qqy]
theorem isWord_c (s:Str):Ret C 238 [.str s] (.bool (wordL.any (s== ·))):=by
 refine Ret.mk rfl rfl ?_
 have e0:=words_c
 have e1:=qtr wordL s (by decide)
 rw[C_fn rfl Tryz.func238 rfl (by kernel_rfl) (m:=5) rfl];simp only[Z3,simprocAttr,Tryz.f238,fx_238,e0 _,e1 _]
theorem int_beq (a b:Nat):((a:Int)==(b:Int))=(a==b):=by
 by_cases h:a=b
 ·subst h;simp
 ·have h1:((a:Int)==(b:Int))=false:=by simp;omega
  have h2:(a==b)=false:=by simpa using h
  rw[h1,h2]
end Go.Ab
namespace Go.Ab
open Go Go.Ab.Tab
def adv (p:Nat×Nat) (c:UInt8):Nat×Nat:=if c=10 then(p.1+1,1)else(p.1,p.2+1)
def plc (s:Str):Nat×Nat:=s.foldl adv (1,1)
theorem plc_snoc (s:Str) (c:UInt8):plc (s++[c])=adv (plc s) c:=by simp[plc]
theorem plc_le (s:Str):(plc s).1≤s.length+1∧(plc s).2≤s.length+1:=by
 have key:∀(s:Str) (p:Nat×Nat),(s.foldl adv p).1≤p.1+s.length∧(s.foldl adv p).2≤max p.2 1+s.length:=by
  intro s
  induction s with
  |nil=>intro p;simp;omega
  |cons c r ih=>
   intro p
   have h:=ih (adv p c)
   simp only[List.foldl_cons,wj]
   unfold adv at h ⊢
   by_cases hc:c=10
   ·rw[if_pos hc]at h ⊢;simp only at h ⊢;omega
   ·rw[if_neg hc]at h ⊢;simp only at h ⊢;omega
 have:=key s (1,1)
 simp only at this
 unfold plc;omega
def qa9 (text:Str) (k:Nat):List AVal:=[.str text,.int .i64 k,.int .i64 (plc (text.take k)).1,.int .i64 (plc (text.take k)).2]
theorem qny (n:Nat) (text:Str) (k:Nat) (h:qaa) (b:Nat) (hb:h[b]? =some (.box (qa9 text k))):Stays n h b:=
 stay_pure n h b _ hb (fun v hv=>by
  simp only[qa9,List.mem_cons,List.not_mem_nil,or_false]at hv
  rcases hv with rfl|rfl|rfl|rfl
  ·exact .inr (.inl ⟨_,rfl⟩)
  ·exact .inl ⟨_,_,rfl⟩
  ·exact .inl ⟨_,_,rfl⟩
  ·exact .inl ⟨_,_,rfl⟩)
theorem byte10 (c:UInt8):((c.toNat:Int)==10)=decide (c=10):=by
 by_cases h:c=10
 ·subst h;rfl
 ·have:c.toNat≠10:=fun e=>h (UInt8.toNat_inj.1 (by rw[e];rfl))
  simp only[h,decide_false,beq_eq_false_iff_ne,ne_eq];omega
theorem skip_c (text:Str) (hT:text.length≤65536) (k n:Nat) (hn:k+n≤text.length):qgd C 129 [.ptr 0 0,.int .i64 n] [.box (qa9 text k)] (.tuple []) [.box (qa9 text (k+n))]:=by
 refine C_gives rfl Tryz.func129 rfl (by kernel_rfl) (m:=41) rfl ?_;simp only[Z3,simprocAttr,Tryz.f129,qns]
 generalize hb:qar PP cmp0 C lpC _=f;generalize hl:lpC f _=r
 obtain⟨ex,s',rfl,rfl,h2⟩:=lpC_atH (α:=Nat) hl [6,7,8,9,10,11,12,13,14,15,16,17,18,19,20,21,22,23,24,25,26,27,28,29,30,31,32,33,34,35,36,37,38,39,40,41,42] (fun i=>[(5,.int .i64 i)]) (fun i=>[.box (qa9 text (k+i))]) (fun i=>i≤n) (fun i=>n-i) (fun _=>())
  (fun ts _ ex s=>ex= .exit 0∧At [6,7,8,9,10,11,12,13,14,15,16,17,18,19,20,21,22,23,24,25,26,27,28,29,30,31,32,33,34,35,36,37,38,39,40,41,42] ts [.box (qa9 text (k+n))] [(5,.int .i64 n)] s) 0 (wi _) (At.of [] (by simp only[ats,wa]) (by simp only[List.append_nil,Nat.add_zero])) (by
   intro i j H d hi
   clear hl;subst hb
   by_cases hlt:i<n
   ·have e1:((i:Int)<(n:Int)):=by omega
    have hk:k+i<text.length:=by omega
    have e2:text[k+i]? =some text[k+i]:=List.getElem?_eq_getElem hk
    have hpl:=plc_le (text.take (k+i))
    have hln:(text.take (k+i)).length≤65536:=by rw[List.length_take];omega
    have w1:=qb2 (show(plc (text.take (k+i))).2≤qae by unfold qae;omega)
    have w2:=qb2 (show(plc (text.take (k+i))).1≤qae by unfold qae;omega)
    have w3:=qb2 (show k+i≤qae by unfold qae;omega)
    have w4:=qb2 (show i≤qae by unfold qae;omega)
    have hst:plc (text.take (k+i+1))=adv (plc (text.take (k+i))) text[k+i]:=by
     rw[List.take_succ_eq_append_getElem hk,plc_snoc]
    have hcell:qa9 text (k+(i+1))=[.str text,.int .i64 ((k+i+1:Nat):Int),.int .i64 ((adv (plc (text.take (k+i))) text[k+i]).1:Nat),.int .i64 ((adv (plc (text.take (k+i))) text[k+i]).2:Nat)]:=by
     rw[←Nat.add_assoc];unfold qa9;rw[hst]
    cases hc:decide (text[k+i]=10)
    ·simp only[Z3,simprocAttr,effs,qns,qa9,e1,e2,w1,w2,w3,w4,byte10,hc]
     refine .inl ⟨i+1,_,rfl,hlt,?_,wh hlt (wk i),trivial⟩
     have hc':¬text[k+i]=10:=by simpa using hc
     unfold adv qa9 at hcell
     rw[if_neg hc']at hcell
     rw[hcell]
     exact At.of _ (by simp only[ats,wa]) (by simp only[wd,wc,we];rfl)
    ·simp only[Z3,simprocAttr,effs,qns,qa9,e1,e2,w1,w2,w3,w4,byte10,hc]
     refine .inl ⟨i+1,_,rfl,hlt,?_,wh hlt (wk i),trivial⟩
     have hc':text[k+i]=10:=by simpa using hc
     unfold adv qa9 at hcell
     rw[if_pos hc']at hcell
     rw[hcell]
     exact At.of _ (by simp only[ats,wa]) (by simp only[wd,wc,we];rfl)
   ·have e1:¬((i:Int)<(n:Int)):=by omega
    have hin:i=n:=by omega
    subst hin
    simp only[Z3,simprocAttr,qns,e1]
    exact .inr ⟨_,_,rfl,by simp,rfl,At.of _ (by simp only[ats,wa]) (by simp only[wd,wc,we];rfl)⟩)
 obtain⟨j,H,d,rfl⟩:=h2.elim
 clear hl
 exact qo1 (.inr rfl) rfl rfl rfl (fun b hb=>by
  obtain rfl:b=0:=Nat.lt_one_iff.1 hb
  exact qny _ text (k+n) _ _ rfl) rfl
end Go.Ab
