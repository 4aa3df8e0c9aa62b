/- The scanner: going on in a text. -/
import Derived.Test.YtngklkmeknmloaaGreatDoorAbSize
import Derived.Test.YtngklkmeknmloaaGreatDoorAbTypes
import Derived.Test.YtngklkmeknmloaaGreatDoorAbBox
import Derived.Test.YtngklkmeknmloaaGreatDoorAbObj
set_option linter.unusedSimpArgs false
set_option linter.unusedVariables false
set_option maxRecDepth 100000
set_option maxHeartbeats 4000000
open Go.Proofs
open Int renaming natCast_zero→wa
open List renaming drop_eq_getElem_cons→wb,append_assoc→wc,length_cons→wd,cons_append→we,nil_append→wf,drop_eq_nil_of_le→wg,drop_zero→wk,any_cons→wm
open Nat renaming sub_lt_sub_left→wh,zero_le→wi,lt_succ_self→wj
namespace Go.Ab
open Go Go.Ab.Tab
def qe5 (z:Int):Bool:=decide (97≤z) && decide (z≤122)
def qei (z:Int):Bool:=decide (65≤z) && decide (z≤90)
def qcg (z:Int):Bool:=decide (48≤z) && decide (z≤57)
def qbz (z:Int):Bool:=qe5 z||qei z||qcg z||z==95
theorem qzl (z:Int):Ret C 194 [.int .u8 z] (.bool (qe5 z)):=by
 refine Ret.mk rfl rfl ?_
 rw[C_fn rfl Tryz.func194 rfl (by kernel_rfl) (m:=8) rfl];simp only[Z3,simprocAttr,Tryz.f194,fx_194,qe5]
 cases h:decide (97≤z)<;>simp only[Z3,simprocAttr,h]
theorem qvi (z:Int):Ret C 195 [.int .u8 z] (.bool (qei z)):=by
 refine Ret.mk rfl rfl ?_
 rw[C_fn rfl Tryz.func195 rfl (by kernel_rfl) (m:=8) rfl];simp only[Z3,simprocAttr,Tryz.f195,fx_195,qei]
 cases h:decide (65≤z)<;>simp only[Z3,simprocAttr,h]
theorem qzm (z:Int):Ret C 192 [.int .u8 z] (.bool (qcg z)):=by
 refine Ret.mk rfl rfl ?_
 rw[C_fn rfl Tryz.func192 rfl (by kernel_rfl) (m:=8) rfl];simp only[Z3,simprocAttr,Tryz.f192,fx_192,qcg]
 cases h:decide (48≤z)<;>simp only[Z3,simprocAttr,h]
theorem qzn (z:Int):Ret C 237 [.int .u8 z] (.bool (qbz z)):=by
 refine Ret.mk rfl rfl ?_
 have e1:=qzl z
 have e2:=qvi z
 have e3:=qzm z
 rw[C_fn rfl Tryz.func237 rfl (by kernel_rfl) (m:=16) rfl];simp only[Z3,simprocAttr,Tryz.f237,fx_237,e1 _,qbz]
 cases h:qe5 z
 ·cases h2:qei z
  ·cases h3:qcg z<;>simp only[Z3,simprocAttr,h,h2,h3,e2 _,e3 _]
  ·simp only[Z3,simprocAttr,h,h2,e2 _]
 ·simp only[Z3,simprocAttr,h]
def qbe (p:Int→Bool):Str→Nat
 |[]=>0
 |c::r=>if p c.toNat then qbe p r+1 else 0
theorem qhq (p:Int→Bool):∀s:Str,qbe p s≤s.length
 |[]=>Nat.le_refl _
 |c::r=>by
  have:=qhq p r
  simp only[qbe,wd]
  split<;>omega
theorem qq1 (p:Int→Bool) (f:FuncId) (hp:∀z,Ret C f [.int .u8 z] (.bool (p z))) (s:Str) (hs:s.length≤qac):Ret C 187 [.str s,.func f [] []] (.int .i64 (qbe p s)):=by
 refine Ret.mk rfl rfl ?_
 rw[C_fn rfl Tryz.func187 rfl (by kernel_rfl) (m:=19) rfl];simp only[Z3,simprocAttr,Tryz.f187,qyc,hs]
 generalize hb:qan PP cmp0 C lpC _=f;generalize hl:lpC f _=r
 obtain⟨ex,s',rfl,h2⟩:=qeo (α:=Nat) hl [4,5,9,10,11,12,13,14,15,16,17,18] (fun i=>[(8,.int .i64 i)]) (fun i=>i≤s.length) (fun i=>s.length-i) (fun i=>i+qbe p (s.drop i))
  (fun ts H r ex st=>(ex= .exit 0∧r=s.length∧At [4,5,8,9,10,11,12,13,14,15,16,17,18] ts H [] st)∨(ex= .ret∧At [5,8,9,10,11,12,13,14,15,16,17,18] ts H [(4,.int .i64 r)] st)) 0 (wi _) (by simp only[At,ats,wa]) (by
   intro i j H d hi
   clear hl;subst hb
   by_cases hlt:i<s.length
   ·have e1:((i:Int)<(s.length:Int)):=by omega
    have e3:s[i]? =some s[i]:=by simp[hlt]
    have e5:=hp s[i].toNat
    simp only[Z3,simprocAttr,qyc,e1,e3,e5 _]
    cases hc:p s[i].toNat
    ·simp only[Z3,simprocAttr]
     exact .inr ⟨_,_,rfl,by simp,.inr ⟨rfl,by simp only[wb hlt,qbe,hc,At,ats];rfl⟩⟩
    ·simp only[Z3,simprocAttr,qay (show i≤qac by omega)]
     exact .inl ⟨i+1,_,rfl,hlt,by simp only[At,ats,wa],by simp only[];omega,by simp only[wb hlt,qbe,hc,if_true];omega⟩
   ·have e1:¬((i:Int)<(s.length:Int)):=by omega
    simp only[Z3,simprocAttr,qyc,e1]
    exact .inr ⟨_,_,rfl,by simp,.inl ⟨rfl,by simp only[];rw[wg (by omega)];simp only[qbe];omega,by simp only[At,ats,wa]⟩⟩)
 rw[wk,Nat.zero_add]at h2
 rcases h2 with⟨rfl,hr,h2⟩|⟨rfl,h2⟩
 ·obtain⟨j,H,d,rfl⟩:=h2.elim
  clear hl
  simp only[Z3,simprocAttr,qyc,hr,hs]
 ·obtain⟨j,H,d,rfl⟩:=h2.elim
  clear hl
  simp only[Z3,simprocAttr]
def wordL:List Str:=[[116,121,112,101],[110,111,100,101],[119,104,101,114,101],[101,110,100],[97,117,116,111,109,97,116,111,110],[115,116,97,116,101],[117,110,116,105,108],[116,104,101,110],[105,102],[101,108,115,101],[102,98,121],[112,114,101],[110,111,116],[97,110,100],[111,114],[119,104,101,110],[109,101,114,103,101],[109,97,116,99,104],[101,118,101,114,121],[116,114,117,101],[102,97,108,115,101]]
theorem words_c:Ret C 267 [] (qag wordL):=Ret.mk rfl rfl (C_of (n:=5) (by kernel_rfl))
def idxN (s:Str):List Str→Nat→Int
 |[],_=> -1
 |x::r,i=>if s==x then(i:Int)else idxN s r (i+1)
theorem qwz (s:Str):∀(l:List Str) (i:Nat),decide (0≤idxN s l i)=l.any (s== ·)
 |[],i=>by simp[idxN]
 |x::r,i=>by
  by_cases h:(s==x)=true
  ·simp only[idxN,wm,h,if_true,Bool.true_or]
   exact decide_eq_true (Int.natCast_nonneg i)
  ·have h':(s==x)=false:=by simpa using h
   simp only[idxN,wm,h',Bool.false_or]
   exact qwz s r (i+1)
theorem index_c (l:List Str) (s:Str) (hl:l.length≤qac):Ret C 260 [qag l,.str s] (.int .i64 (idxN s l 0)):=by
 refine Ret.mk rfl rfl ?_
 rw[C_fn rfl Tryz.func260 rfl (by kernel_rfl) (m:=17) rfl];simp only[Z3,simprocAttr,Tryz.f260,qqu,qag]
 generalize hb:qan PP cmp0 C lpC _=f;generalize hl0:lpC f _=r
 obtain⟨ex,s',rfl,h2⟩:=qeo (α:=Nat) hl0 [4,5,9,10,11,12,13,14,15,16,17,18] (fun i=>[(8,.int .i64 i)]) (fun i=>i≤l.length) (fun i=>l.length-i) (fun i=>idxN s (l.drop i) i)
  (fun ts H r ex st=>(ex= .exit 0∧r= -1∧At [4,5,8,9,10,11,12,13,14,15,16,17,18] ts H [] st)∨(ex= .ret∧At [5,8,9,10,11,12,13,14,15,16,17,18] ts H [(4,.int .i64 r)] st)) 0 (wi _) (by simp only[At,ats,wa]) (by
   intro i j H d hi
   clear hl0;subst hb
   by_cases hlt:i<l.length
   ·have e1:((i:Int)<(l.length:Int)):=by omega
    have e3:=qjb l i hlt
    simp only[Z3,simprocAttr,qqu,e1,e3]
    cases hc:s==l[i]
    ·simp only[Z3,simprocAttr,qay (show i≤qac by omega)]
     exact .inl ⟨i+1,_,rfl,hlt,by simp only[At,ats,wa],by simp only[];omega,by simp only[wb hlt,idxN,hc];rfl⟩
    ·simp only[Z3,simprocAttr]
     exact .inr ⟨_,_,rfl,by simp,.inr ⟨rfl,by simp only[wb hlt,idxN,hc,if_true,At,ats]⟩⟩
   ·have e1:¬((i:Int)<(l.length:Int)):=by omega
    simp only[Z3,simprocAttr,qqu,e1]
    exact .inr ⟨_,_,rfl,by simp,.inl ⟨rfl,by simp only[];rw[wg (by omega)];rfl,by simp only[At,ats,wa]⟩⟩)
 rw[wk]at h2
 rcases h2 with⟨rfl,hr,h2⟩|⟨rfl,h2⟩
 ·obtain⟨j,H,d,rfl⟩:=h2.elim
  clear hl0
  simp only[Z3,simprocAttr,hr]
 ·obtain⟨j,H,d,rfl⟩:=h2.elim
  clear hl0
  simp only[Z3,simprocAttr]
theorem q6u (l:List Str) (s:Str) (hl:l.length≤qac):Ret C 230 [qag l,.str s] (.bool (l.any (s== ·))):=by
 refine Ret.mk rfl rfl ?_
 have e1:=index_c l s hl
 rw[C_fn rfl Tryz.func230 rfl (by kernel_rfl) (m:=7) rfl];simp only[Z3,simprocAttr,Tryz.f230,fx_230,e1 _,qwz]
theorem q3h (s:Str):Ret C 238 [.str s] (.bool (wordL.any (s== ·))):=by
 refine Ret.mk rfl rfl ?_
 have e0:=words_c
 have e1:=q6u wordL s (by decide)
 rw[C_fn rfl Tryz.func238 rfl (by kernel_rfl) (m:=5) rfl];simp only[Z3,simprocAttr,Tryz.f238,fx_238,e0 _,e1 _]
def qk1 (p:Int→Bool):Str→Bool
 |[]=>false
 |c::r=>decide ((c::r).length≤24) && p c.toNat && (qbe qbz (c::r)==(c::r).length)
theorem int_dec (a b:Nat):decide ((a:Int)≤(b:Int))=decide (a≤b):=by
 by_cases h:a≤b
 ·rw[decide_eq_true h,decide_eq_true (by omega)]
 ·rw[decide_eq_false h,decide_eq_false (by omega)]
theorem int_beq (a b:Nat):((a:Int)==(b:Int))=(a==b):=by
 by_cases h:a=b
 ·subst h;simp
 ·have h1:((a:Int)==(b:Int))=false:=by simp;omega
  have h2:(a==b)=false:=by simpa using h
  rw[h1,h2]
theorem q3i (p:Int→Bool) (f:FuncId) (hp:∀z,Ret C f [.int .u8 z] (.bool (p z))) (s:Str) (hs:s.length≤qac):Ret C 239 [.str s,.func f [] []] (.bool (qk1 p s)):=by
 refine Ret.mk rfl rfl ?_
 have e1:=qq1 qbz 237 qzn s hs
 cases s with
 |nil=>rw[C_fn rfl Tryz.func239 rfl (by kernel_rfl) (m:=23) rfl];simp only[Z3,simprocAttr,Tryz.f239,qtv,qk1]
 |cons c r=>
  have e2:=hp c.toNat
  have e3:((c::r)==([]:Str))=false:=rfl
  have e4:decide (((r.length+1:Nat):Int)≤24)=decide (r.length+1≤24):=int_dec (r.length+1) 24
  have e5:=int_beq (qbe qbz (c::r)) (c::r).length
  have hs':=hs
  simp only[wd]at e5 hs'
  rw[C_fn rfl Tryz.func239 rfl (by kernel_rfl) (m:=23) rfl];simp only[Z3,simprocAttr,Tryz.f239,qtv,e3,e4,qk1,hs',hs]
  cases h1:decide (r.length≤23)
  ·simp only[Z3,simprocAttr,qtv,h1]
  cases h2:p c.toNat
  ·simp only[Z3,simprocAttr,qtv,h1,h2,e2 _]
  ·simp only[Z3,simprocAttr,qtv,h1,h2,e2 _,e1 _,hs',e5]
def qc2 (s:Str):Bool:=qk1 qe5 s && !(wordL.any (s== ·))
def qgb (s:Str):Bool:=qk1 qei s
theorem isName_c (s:Str) (hs:s.length≤qac):Ret C 201 [.str s] (.bool (qc2 s)):=by
 refine Ret.mk rfl rfl ?_
 have e1:=q3i qe5 194 qzl s hs
 have e2:=q3h s
 rw[C_fn rfl Tryz.func201 rfl (by kernel_rfl) (m:=9) rfl];simp only[Z3,simprocAttr,Tryz.f201,fx_201,e1 _,qc2]
 cases h1:qk1 qe5 s
 ·simp only[Z3,simprocAttr,fx_201,h1]
 ·simp only[Z3,simprocAttr,fx_201,h1,e2 _]
theorem isCon_c (s:Str) (hs:s.length≤qac):Ret C 205 [.str s] (.bool (qgb s)):=by
 refine Ret.mk rfl rfl ?_
 have e1:=q3i qei 195 qvi s hs
 rw[C_fn rfl Tryz.func205 rfl (by kernel_rfl) (m:=4) rfl];simp only[Z3,simprocAttr,Tryz.f205,fx_205,e1 _,qgb]
end Go.Ab
namespace Go.Ab
open Go Go.Ab.Tab
def adv (p:Nat×Nat) (c:UInt8):Nat×Nat:=if c=10 then(p.1+1,1)else(p.1,p.2+1)
def plc (s:Str):Nat×Nat:=s.foldl adv (1,1)
theorem plc_snoc (s:Str) (c:UInt8):plc (s++[c])=adv (plc s) c:=by simp[plc]
theorem plc_le (s:Str):(plc s).1≤s.length+1∧(plc s).2≤s.length+1:=by
 have key:∀(s:Str) (p:Nat×Nat),(s.foldl adv p).1≤p.1+s.length∧(s.foldl adv p).2≤max p.2 1+s.length:=by
  intro s
  induction s with
  |nil=>intro p;simp;omega
  |cons c r ih=>
   intro p
   have h:=ih (adv p c)
   simp only[List.foldl_cons,wd]
   unfold adv at h ⊢
   by_cases hc:c=10
   ·rw[if_pos hc]at h ⊢;simp only at h ⊢;omega
   ·rw[if_neg hc]at h ⊢;simp only at h ⊢;omega
 have:=key s (1,1)
 simp only at this
 unfold plc;omega
def qdk (text:Str) (k:Nat):List AVal:=[.str text,.int .i64 k,.int .i64 (plc (text.take k)).1,.int .i64 (plc (text.take k)).2]
theorem qyp (n:Nat) (text:Str) (k:Nat) (h:qab) (b:Nat) (hb:h[b]? =some (.box (qdk text k))):qiz n h b:=
 q0n n h b _ hb (fun v hv=>by
  simp only[qdk,List.mem_cons,List.not_mem_nil,or_false]at hv
  rcases hv with rfl|rfl|rfl|rfl
  ·exact .inr (.inl ⟨_,rfl⟩)
  ·exact .inl ⟨_,_,rfl⟩
  ·exact .inl ⟨_,_,rfl⟩
  ·exact .inl ⟨_,_,rfl⟩)
theorem byte10 (c:UInt8):((c.toNat:Int)==10)=decide (c=10):=by
 by_cases h:c=10
 ·subst h;rfl
 ·have:c.toNat≠10:=fun e=>h (UInt8.toNat_inj.1 (by rw[e];rfl))
  simp only[h,decide_false,beq_eq_false_iff_ne,ne_eq];omega
theorem skip_c (text:Str) (hT:text.length≤65536) (k n:Nat) (hn:k+n≤text.length):qbj C 129 [.ptr 0 0,.int .i64 n] [.box (qdk text k)] (.tuple []) [.box (qdk text (k+n))]:=by
 refine qa9 rfl Tryz.func129 rfl (by kernel_rfl) (m:=41) rfl ?_;simp only[Z3,simprocAttr,Tryz.f129,qya]
 generalize hb:qan PP cmp0 C lpC _=f;generalize hl:lpC f _=r
 obtain⟨ex,s',rfl,rfl,h2⟩:=qe2 (α:=Nat) hl [6,7,8,9,10,11,12,13,14,15,16,17,18,19,20,21,22,23,24,25,26,27,28,29,30,31,32,33,34,35,36,37,38,39,40,41,42] (fun i=>[(5,.int .i64 i)]) (fun i=>[.box (qdk text (k+i))]) (fun i=>i≤n) (fun i=>n-i) (fun _=>())
  (fun ts _ ex s=>ex= .exit 0∧At [6,7,8,9,10,11,12,13,14,15,16,17,18,19,20,21,22,23,24,25,26,27,28,29,30,31,32,33,34,35,36,37,38,39,40,41,42] ts [.box (qdk text (k+n))] [(5,.int .i64 n)] s) 0 (wi _) (At.of [] (by simp only[ats,wa]) (by simp only[List.append_nil,Nat.add_zero])) (by
   intro i j H d hi
   clear hl;subst hb
   by_cases hlt:i<n
   ·have e1:((i:Int)<(n:Int)):=by omega
    have hk:k+i<text.length:=by omega
    have e2:text[k+i]? =some text[k+i]:=List.getElem?_eq_getElem hk
    have hpl:=plc_le (text.take (k+i))
    have hln:(text.take (k+i)).length≤65536:=by rw[List.length_take];omega
    have w1:=qay (show(plc (text.take (k+i))).2≤qac by unfold qac;omega)
    have w2:=qay (show(plc (text.take (k+i))).1≤qac by unfold qac;omega)
    have w3:=qay (show k+i≤qac by unfold qac;omega)
    have w4:=qay (show i≤qac by unfold qac;omega)
    have hst:plc (text.take (k+i+1))=adv (plc (text.take (k+i))) text[k+i]:=by
     rw[List.take_succ_eq_append_getElem hk,plc_snoc]
    have hcell:qdk text (k+(i+1))=[.str text,.int .i64 ((k+i+1:Nat):Int),.int .i64 ((adv (plc (text.take (k+i))) text[k+i]).1:Nat),.int .i64 ((adv (plc (text.take (k+i))) text[k+i]).2:Nat)]:=by
     rw[←Nat.add_assoc];unfold qdk;rw[hst]
    cases hc:decide (text[k+i]=10)
    ·simp only[Z3,simprocAttr,effs,qya,qdk,e1,e2,w1,w2,w3,w4,byte10,hc]
     refine .inl ⟨i+1,_,rfl,hlt,?_,wh hlt (wj i),trivial⟩
     have hc':¬text[k+i]=10:=by simpa using hc
     unfold adv qdk at hcell
     rw[if_neg hc']at hcell
     rw[hcell]
     exact At.of _ (by simp only[ats,wa]) (by simp only[we,wc,wf];rfl)
    ·simp only[Z3,simprocAttr,effs,qya,qdk,e1,e2,w1,w2,w3,w4,byte10,hc]
     refine .inl ⟨i+1,_,rfl,hlt,?_,wh hlt (wj i),trivial⟩
     have hc':text[k+i]=10:=by simpa using hc
     unfold adv qdk at hcell
     rw[if_pos hc']at hcell
     rw[hcell]
     exact At.of _ (by simp only[ats,wa]) (by simp only[we,wc,wf];rfl)
   ·have e1:¬((i:Int)<(n:Int)):=by omega
    have hin:i=n:=by omega
    subst hin
    simp only[Z3,simprocAttr,qya,e1]
    exact .inr ⟨_,_,rfl,by simp,rfl,At.of _ (by simp only[ats,wa]) (by simp only[we,wc,wf];rfl)⟩)
 obtain⟨j,H,d,rfl⟩:=h2.elim
 clear hl
 exact qc3 (.inr rfl) rfl rfl rfl (fun b hb=>by
  obtain rfl:b=0:=Nat.lt_one_iff.1 hb
  exact qyp _ text (k+n) _ _ rfl) rfl
end Go.Ab
