/- The scanner: all tokens of a text. -/
import Derived.Test.YtngklkmeknmloaaGreatDoorAbPrX
import Derived.Test.YtngklkmeknmloaaGreatDoorAbReadT
import Derived.Test.YtngklkmeknmloaaGreatDoorAbEach
import Derived.Test.YtngklkmeknmloaaGreatDoorAbInv
import Derived.Test.YtngklkmeknmloaaGreatDoorAbTok
import Derived.Test.YtngklkmeknmloaaGreatDoorAbTypes
set_option linter.unusedSimpArgs false
set_option linter.unusedVariables false
set_option maxRecDepth 100000
set_option maxHeartbeats 4000000
open Go.Proofs
open List renaming length_cons→wa,cons_append→wc,map_cons→wd,length_nil→we,sum_cons→wf,length_drop→wg,all_cons→wh,length_append→wi,not_mem_nil→wj,length_map→wk,idxOf_cons→wm,nil_append→wo,take_left→wq,mem_cons→wt
open Bool renaming and_eq_true→wb
open Nat renaming add_mul→wu
namespace Go.Ab
open Go Go.Ab.Tab
def J (l:List Str):Str:=qi1 [32] l
theorem J_nil:J []=[]:=rfl
theorem J_one (x:Str):J [x]=x:=rfl
theorem J_cons (x:Str) (l:List Str) (h:l≠[]):J (x::l)=x++32::J l:=by
 cases l with
 |nil=>exact absurd rfl h
 |cons y r=>show x++[32]++qi1 [32] (y::r)=_;simp[J]
def T:List Str→Nat
 |[]=>0
 |x::r=>x.length+1+T r
theorem T_app (a b:List Str):T (a++b)=T a+T b:=by
 induction a with
 |nil=>simp[T]
 |cons x r ih=>simp only[wc,T,ih];omega
theorem J_len (l:List Str):(J l).length≤T l:=by
 induction l with
 |nil=>simp[J_nil,T]
 |cons x r ih=>
  cases r with
  |nil=>simp[J_one,T]
  |cons y q=>
   rw[J_cons x _ (by simp)]
   simp only[wi,wa,T]at ih ⊢
   omega
theorem T_len (l:List Str):l.length≤T l:=by
 induction l with
 |nil=>simp[T]
 |cons x r ih=>simp only[wa,T];omega
def sumT (L:List (List Str)):Nat:=(L.map T).sum
theorem qxu (s:Str) (L:List (List Str)):T (sepW s L)≤sumT L+L.length*(s.length+1):=by
 cases L with
 |nil=>simp[sepW,T,sumT]
 |cons x r=>
  have:T (r.flatMap fun y=>s::y)=(r.map T).sum+r.length*(s.length+1):=by
   induction r with
   |nil=>simp[T]
   |cons y q ih=>
    simp only[List.flatMap_cons,wc,T,T_app,ih,wd,wf,wa,wu,Nat.one_mul]
    omega
  simp only[sepW,T_app,this,sumT,wd,wf,wa,wu]
  omega
theorem q3p (p:List Str→Prop) (op:Int) (name:Str) (n:Int) (cons:List Str) (ks:List (List Str))
 (h1:p [decB n])
 (h2:p [qm7 (n==1)])
 (h3:p [name])
 (h4:p [name])
 (h5:p ([[40],name]++kW ks 0++[[41]]))
 (h6:p (btwW (kW ks 0) name (kW ks 1)))
 (h7:p ([[40],[105,102]]++kW ks 0++[[116,104,101,110]]++kW ks 1++[[101,108,115,101]]++kW ks 2++[[41]]))
 (h8:p (btwW (kW ks 0) [102,98,121] (kW ks 1)))
 (h10:p (btwW (kW ks 0) [45,62] (kW ks 1)))
 (h15:p (btwW (kW ks 0) [101,118,101,114,121] (kW ks 1)))
 (h9:p ([[40],[112,114,101]]++kW ks 0++[[41]]))
 (h11:p ([[40]]++kW ks 0++[[119,104,101,110]]++qik cons [44]++[[40],name,[41],[41]]))
 (h12:p (qk2 [109,101,114,103,101] name cons ks))
 (h13:p (qk2 [109,97,116,99,104] name cons ks))
 (h14:p (qrm name cons ks))
 (h0:p [[63]]):p (qp5 op name n cons ks):=by
 unfold qp5
 by_cases c1:op=1
 ·rw[if_pos c1];exact h1
 rw[if_neg c1]
 by_cases c2:op=2
 ·rw[if_pos c2];exact h2
 rw[if_neg c2]
 by_cases c3:op=3
 ·rw[if_pos c3];exact h3
 rw[if_neg c3]
 by_cases c4:op=4
 ·rw[if_pos c4];exact h4
 rw[if_neg c4]
 by_cases c5:op=5
 ·rw[if_pos c5];exact h5
 rw[if_neg c5]
 by_cases c6:op=6
 ·rw[if_pos c6];exact h6
 rw[if_neg c6]
 by_cases c7:op=7
 ·rw[if_pos c7];exact h7
 rw[if_neg c7]
 by_cases c8:op=8
 ·rw[if_pos c8];exact h8
 rw[if_neg c8]
 by_cases c10:op=10
 ·rw[if_pos c10];exact h10
 rw[if_neg c10]
 by_cases c15:op=15
 ·rw[if_pos c15];exact h15
 rw[if_neg c15]
 by_cases c9:op=9
 ·rw[if_pos c9];exact h9
 rw[if_neg c9]
 by_cases c11:op=11
 ·rw[if_pos c11];exact h11
 rw[if_neg c11]
 by_cases c12:op=12
 ·rw[if_pos c12];exact h12
 rw[if_neg c12]
 by_cases c13:op=13
 ·rw[if_pos c13];exact h13
 rw[if_neg c13]
 by_cases c14:op=14
 ·rw[if_pos c14];exact h14
 rw[if_neg c14]
 exact h0
theorem qvz:∀(f n:Nat),(decN f n).length≤f+1
 |0,n=>by simp[decN]
 |f+1,n=>by
  unfold decN
  split
  ·simp
  ·have:=qvz f (n/10)
   simp only[wi,wa,we];omega
theorem decB_len (n:Int):(decB n).length≤22:=by
 unfold decB
 split
 ·have:=qvz 20 n.natAbs;simp only[wa];omega
 ·have:=qvz 20 n.toNat;omega
theorem boolW_len (b:Bool):(qm7 b).length≤5:=by cases b<;>simp[qm7]
theorem kW_T (ks:List (List Str)):T (kW ks 0)+T (kW ks 1)+T (kW ks 2)≤sumT ks+6:=by
 rcases ks with _|⟨a,_|⟨b,_|⟨c,r⟩⟩⟩<;>simp[kW,T,sumT]<;>omega
def qmb (l:List Str):Nat:=qbq (fun s:Str=>s.length+1) l
theorem listW_T (l:List Str) (s:Str):T (qik l s)≤qmb l+l.length*(s.length+1):=by
 have h:=qxu s (l.map fun x=>[x])
 have:sumT (l.map fun x=>[x])=qmb l:=by
  induction l with
  |nil=>rfl
  |cons x r ih=>
   have:=ih (qxu s (r.map fun x=>[x]))
   simp only[sumT,qmb,wd,wf,qbq,T]at this ⊢
   omega
 unfold qik
 rw[this,wk]at h
 exact h
theorem armL_T (cons:List Str) (ks:List (List Str)):sumT (armL cons ks)+(armL cons ks).length*2≤6*qmb cons+sumT ks:=by
 induction cons generalizing ks with
 |nil=>simp[armL,sumT,qmb,qbq]
 |cons c r ih=>
  cases ks with
  |nil=>simp[armL,sumT]
  |cons k q=>
   have:=ih q
   simp only[armL,sumT,qmb,List.zipWith_cons_cons,wd,wf,wa,qbq,T_app,T,we]at this ⊢
   omega
theorem consT_len (l:List Str):l.length≤qmb l:=qg0 _ (fun _=>by omega) l
theorem words_T (e:PExpr):T e.words+100≤40*e.bulk:=by
 induction e using PExpr.induct with
 |h op name n cons kids ih=>
  have hk:sumT (kids.map PExpr.words)+100*kids.length≤40*PExpr.bulkL kids∧kids.length≤PExpr.bulkL kids:=by
   clear n
   induction kids with
   |nil=>simp[sumT,PExpr.bulkL]
   |cons x r ihr=>
    have h1:=ih x (by simp)
    have h2:=ihr (fun k hk=>ih k (by simp[hk]))
    have h3:6≤x.bulk:=by cases x;simp only[PExpr.bulk];omega
    simp only[sumT,wd,wf,PExpr.bulkL,wa]at h2 ⊢
    omega
  have hb:(PExpr.mk op name n cons kids).bulk=name.length+qmb cons+PExpr.bulkL kids+6:=by simp[PExpr.bulk,qmb]
  rw[hb]
  simp only[PExpr.words,qxs]
  have k0:=kW_T (kids.map PExpr.words)
  have d:=decB_len n
  have b:=boolW_len (n==1)
  have l1:=listW_T cons [44]
  have l2:=consT_len cons
  have a1:=armL_T cons (kids.map PExpr.words)
  have a2:=qxu [124] (armL cons (kids.map PExpr.words))
  have c1:=qxu [44] (kids.map PExpr.words)
  simp only[wk,wa,we]at l1 a2 c1
  have l3:cons.length=0→True:=fun _=>trivial
  apply q3p (fun l=>T l+100≤40*(name.length+qmb cons+PExpr.bulkL kids+6))
  all_goals simp only[btwW,qk2,qrm,brW,T_app,T,wa,we]
  all_goals first|omega|(split<;>simp only[T_app,T,wa,we]<;>omega)
end Go.Ab
namespace Go.Ab
open Go Go.Ab.Tab
theorem strsA_enc (l:List Str):qls (encS l)=some l:=by
 induction l with
 |nil=>rfl
 |cons x r ih=>simp only[encS,wd]at ih ⊢;simp only[qls,ih,Option.map_some]
theorem join_own (ws:List Str) (hl:T ws≤qac) (tk:Tk) (h:qab):C 107 [.slice (encS ws) tk,.str [32]] h=some (.ret (.str (J ws)) .same):=by
 have h1:=T_len ws
 have h2:=J_len ws
 have m2:qac=1099511627776:=rfl
 have m3:qh2=140737488355328:=rfl
 unfold C
 rw[qtr ext_join]
 show(match qls (encS ws)with|some l=>if l.length≤qh2∧(qi1 [32] l).length≤qh2 then some (CR.ret (.str (qi1 [32] l)) Eff.same)else none|none=>none)=_
 rw[strsA_enc]
 have h3:ws.length≤qh2∧(qi1 [32] ws).length≤qh2:=⟨by omega,by unfold J at h2;omega⟩
 exact if_pos h3
theorem text_c (ws:List Str) (hl:T ws≤qac):C 55 [.ptr 0 0] (pOwn 9 ws)=some (.ret (.str (J ws)) .same):=by
 have e1:qai C [.box [.slice (encS ws) (.own 1)],.tok ws.length 9] 107 [.slice (encS ws) (.own 1),.str [32]]=some (.ret (.str (J ws)) .same):=
  qos [1] rfl rfl (by
   have e:renL (fun x=>List.idxOf x [1]) [.slice (encS ws) (.own 1),.str [32]]=[.slice (encS ws) (.own 0),.str [32]]:=rfl
   rw[e];exact join_own ws hl _ _) rfl
 rw[C_fn rfl Tryz.func55 rfl (by kernel_rfl) (m:=7) rfl];simp only[Z3,simprocAttr,Tryz.f55,fx_55,pOwn,e1,qa0 2 _ _ [] (by simp)]
theorem pr_read {f:FuncId} {v:AVal} {h:qab} {b t:Nat} {ws:List Str} (p:PrAt 9 h b ws (some t)) (e:C f [.ptr 0 0] (pOwn 9 ws)=some (.ret v .same)) (hv:refs v=[]):qai C h f [.ptr b 0]=some (.ret v .same):=by
 obtain⟨hb,ht⟩:=p
 have hne:t≠b:=by intro e;subst e;rw[hb]at ht;cases ht
 have hnb:(b==t)=false:=beq_false_of_ne (Ne.symm hne)
 refine qos [b,t] ?_ ?_ ?_ hv
 ·simp[qbv,qad,refs,hb,ht,hne]
 ·unfold qc2;simp[qad,refs,hb,ht,qdq]
 ·have hsub:subH h [b,t]=pOwn 9 ws:=by
   simp only[subH,wd,List.map_nil,List.getD_eq_getElem?_getD,hb,ht,Option.getD_some,renB,qr1,pOwn,wm,hnb,beq_self_eq_true,cond_true,cond_false]
  rw[hsub]
  simp only[renL,ren,wm,beq_self_eq_true,cond_true]
  exact e
theorem show_c (e:PExpr) (hs:e.Small) (hr:e.Rng) (hb:e.bulk≤16777216):Ret C 23 [.agg e.cells] (.str (J e.words)):=by
 refine Ret.mk (by simp[qad,refs,e.norefs]) rfl ?_
 have hT:=words_T e
 have hTl:=T_len e.words
 have m2:qac=1099511627776:=rfl
 have p0:PrAt 9 [.box e.cells,.box [.slice [] .full]] 1 [] none:=⟨rfl,rfl⟩
 rw[C_fn rfl Tryz.func23 rfl (by kernel_rfl) (m:=10) rfl];simp only[Z3,simprocAttr,Tryz.f23,fx_23]
 obtain⟨E1,hE1,t,-,-,p1,o1,l1⟩:=qdx qaw (prexpr_c e hs hr) (by simp[qad,refs,e.norefs]) p0 (by simp only[we];omega)
 have hx:=pr_read p1 (text_c ([]++e.words) (by simp only[wo];omega)) rfl
 simp only[Z3,simprocAttr,effs,fx_23,hE1,hx]
end Go.Ab
namespace Go.Ab
open Go Go.Ab.Tab
end Go.Ab
namespace Go.Ab
open Go Go.Ab.Tab
end Go.Ab
namespace Go.Ab
open Go Go.Ab.Tab
theorem qm8 {p:PProg} (h:qgb false p=0):qma false p=true∧∀n∈p.nodes,qmi n=false:=by
 unfold qgb at h
 cases hq:qma false p with
 |false=>rw[hq]at h;simp at h
 |true=>
  rw[hq,if_pos rfl]at h
  refine⟨rfl,fun n hn=> ?_⟩
  cases hg:p.nodes.any qmi with
  |true=>rw[hg,if_pos rfl]at h;cases h
  |false=>simpa using(List.any_eq_false.1 hg) n hn
def quq:List Str:=[[45,62],[60,61],[60,62],[40],[41],[91],[93],[60],[61],[44],[59],[58],[124],[43],[45],[42],[47],[37]]
inductive WOk:Str→Prop where
 |name {s:Str}:qdv s=true→WOk s
 |con {s:Str}:qiu s=true→WOk s
 |word {s:Str}:s∈wordL→WOk s
 |sign {s:Str}:s∈quq→WOk s
 |int (n:Int):0≤n→n≤9223372036854775807→WOk (decB n)
def Oks (l:List Str):Prop:=∀w∈l,WOk w
def noB (w:Str):Prop:=w≠[]∧∀c∈w,c≠32
theorem wok_noB {w:Str} (h:WOk w):noB w:=by
 cases h with
 |name h=>
  simp only[qdv,wb]at h
  obtain⟨c,r,rfl,_,_,hs⟩:=qf4 h.1
  exact⟨by simp,qp4 _ hs⟩
 |con h=>
  obtain⟨c,r,rfl,_,_,hs⟩:=qf4 h
  exact⟨by simp,qp4 _ hs⟩
 |word h=> 
  have:∀x∈wordL,x≠[]∧∀c∈x,c≠32:=by decide
  exact this _ h
 |sign h=>
  have:∀x∈quq,x≠[]∧∀c∈x,c≠32:=by decide
  exact this _ h
 |int n h0 h1=>
  obtain⟨a,_,c⟩:=qrj h0 h1
  refine⟨c,fun x hx e=> ?_⟩
  subst e
  have:=List.all_eq_true.1 a 32 hx
  revert this;decide
end Go.Ab
namespace Go.Ab
open Go Go.Ab.Tab
def atP (text:Str) (k:Nat) (t:PTok):PTok:=⟨t.sort,t.text,t.n,(plc (text.take k)).1,(plc (text.take k)).2⟩
def endT:PTok:=⟨6,[],0,0,0⟩
def qci (text:Str):Nat→Nat→Option (List PTok)×Nat
 |0,k=>(none,k)
 |f+1,k=>if k+gapS false (text.drop k)=text.length then(some [atP text (k+gapS false (text.drop k)) endT],0)
  else if(lexT (text.drop (k+gapS false (text.drop k)))).2=true then
   (match qci text f (k+gapS false (text.drop k)+(lexT (text.drop (k+gapS false (text.drop k)))).1.text.length)with
   |(some l,p)=>(some (atP text (k+gapS false (text.drop k)) (lexT (text.drop (k+gapS false (text.drop k)))).1::l),p)
   |(none,p)=>(none,p))
  else(none,k+gapS false (text.drop k))
def strip (t:PTok):PTok:=⟨t.sort,t.text,t.n,0,0⟩
theorem strip_at (text:Str) (k:Nat) (t:PTok) (h:t=strip t):strip (atP text k t)=t:=by
 rw[h];rfl
def Brk (p:Int→Bool) (r:Str):Prop:=r=[]∨∃c t,r=c::t∧p c.toNat=false
theorem qoy {p:Int→Bool}:∀{w r:Str},qay p w=w.length→Brk p r→qay p (w++r)=w.length
 |[],r,_,h=>by
  rcases h with rfl|⟨c,t,rfl,hc⟩
  ·rfl
  ·simp only[wo,qay,hc];rfl
 |c::w,r,h,hb=>by
  simp only[qay]at h
  split at h
  ·rename_i hc
   simp only[wc,qay,hc,if_true,wa]at h ⊢
   rw[qoy (by omega) hb]
  ·simp at h
def Bl (r:Str):Prop:=r=[]∨∃t,r=32::t
theorem Bl.brk {r:Str} (h:Bl r) (p:Int→Bool) (hp:p 32=false):Brk p r:=by
 rcases h with rfl|⟨t,rfl⟩
 ·exact .inl rfl
 ·exact .inr ⟨32,t,rfl,hp⟩
theorem wordD_app {w r:Str} (h:qay qba w=w.length) (hb:Bl r):qcm (w++r)=w:=by
 unfold qcm
 rw[qoy h (hb.brk qba rfl),wq]
theorem qn1 {w r:Str} {c:UInt8} {t:Str} (hw:w=c::t) (hd:qby c.toNat=false) (hl:(qet c.toNat||qd8 c.toNat)=true) (hs:qay qba w=w.length) (h24:w.length≤24) (hb:Bl r):
 lexT (w++r)=(⟨if wordL.any (w== ·)then 5 else if qd8 c.toNat then 2 else 1,w,0,0,0⟩,true):=by
 have e:=wordD_app hs hb
 subst hw
 rw[wc]at e ⊢
 simp only[lexT,hd,hl,if_true,qi7,e,List.headD_cons]
 rw[decide_eq_true h24];rfl
theorem qzn:∀w∈wordL,ql9 w=5∧qay qba w=w.length∧w.length≤24∧w≠[]:=by decide
theorem sign_tok:∀w∈quq,ql9 w=4:=by decide
theorem sign_lex {w:Str} (h:w∈quq) {r:Str} (hb:Bl r):lexT (w++r)=(⟨4,w,0,0,0⟩,true):=by
 simp only[quq,wt,wj,or_false]at h
 rcases hb with rfl|⟨t,rfl⟩
 ·rcases h with rfl|rfl|rfl|rfl|rfl|rfl|rfl|rfl|rfl|rfl|rfl|rfl|rfl|rfl|rfl|rfl|rfl|rfl<;>rfl
 ·rcases h with rfl|rfl|rfl|rfl|rfl|rfl|rfl|rfl|rfl|rfl|rfl|rfl|rfl|rfl|rfl|rfl|rfl|rfl<;>rfl
theorem dig_span {w:Str} (h:qd9 w=true):qay qby w=w.length:=by
 induction w with
 |nil=>rfl
 |cons c t ih=>
  unfold qd9 at h
  rw[wh,wb]at h
  simp only[qay,h.1,if_true,wa,ih h.2]
theorem dig_inner {w:Str} (h:qd9 w=true):qay qba w=w.length:=by
 induction w with
 |nil=>rfl
 |cons c t ih=>
  unfold qd9 at h
  rw[wh,wb]at h
  have:qba c.toNat=true:=by unfold qba;rw[h.1];simp
  simp only[qay,this,if_true,wa,ih h.2]
theorem qzo:∀(f n:Nat),n<10 ^ f→0<f→decN f n=[48]∨(0<n∧∃c t,decN f n=c::t∧c≠48)
 |0,n,_,h0=>by omega
 |f+1,n,h,_=>by
  rw[qzl]
  by_cases hn:n<10
  ·rw[if_pos hn]
   by_cases hz:n=0
   ·subst hz;exact .inl rfl
   ·refine .inr ⟨by omega,_,[],rfl,fun e=> ?_⟩
    have:=congrArg UInt8.toNat e
    rw[qpb n hn]at this
    have h48:(48:UInt8).toNat=48:=rfl
    omega
  ·rw[if_neg hn]
   have h10:n/10<10 ^ f:=by
    rw[Nat.pow_succ]at h
    exact Nat.div_lt_of_lt_mul (by rw[Nat.mul_comm];exact h)
   have hf:0<f:=by
    cases f with
    |zero=>simp at h;omega
    |succ f=>omega
   rcases qzo f (n/10) h10 hf with h1|⟨_,c,t,h1,h2⟩
   ·exfalso
    have:=(q1p f (n/10) h10).2.1
    rw[h1]at this
    have h3:valN 0 [48]=0:=rfl
    omega
   ·exact .inr ⟨by omega,c,t++[UInt8.ofNat (48+n % 10)],by rw[h1];rfl,h2⟩
theorem int_lex {n:Int} (h0:0≤n) (h1:n≤9223372036854775807) {r:Str} (hb:Bl r):lexT (decB n++r)=(⟨3,decB n,n,0,0⟩,true):=by
 obtain⟨a,b,c⟩:=qrj h0 h1
 have hz:decB n=[48]∨(decB n).head? ≠some 48:=by
  unfold decB
  rw[if_neg (by omega)]
  have hp:(100000000000000000000:Nat)=10 ^ 20:=rfl
  rcases qzo 20 n.toNat (by rw[←hp];omega) (by omega)with h|⟨_,c,t,h,h2⟩
  ·exact .inl h
  ·refine .inr ?_
   rw[h];simpa using h2
 generalize decB n=w at a b c hz
 have hnd:numD (w++r)=w:=by
  unfold numD
  rw[qoy (dig_span a) (hb.brk qby rfl),wq]
 have hin:qay qba (w++r)=w.length:=qoy (dig_inner a) (hb.brk qba rfl)
 have hle:valN 0 w≤maxI:=by unfold maxI;omega
 cases w with
 |nil=>exact absurd rfl c
 |cons d t=>
  have hd:qby d.toNat=true:=by
   unfold qd9 at a
   rw[wh,wb]at a;exact a.1
  have hnz:notZ (d::t)=true:=by
   unfold notZ
   rcases hz with hz|hz
   ·rw[hz];rfl
   ·have:((d::t).head? ==some (48:UInt8))=false:=by simpa using hz
    rw[this];simp
  rw[wc]at hnd hin ⊢
  have e:lexT (d::(t++r))=(numT (d::(t++r)),qou (d::(t++r))):=by simp only[lexT,hd];rfl
  rw[e]
  unfold numT qou
  rw[hnd,hin,if_pos hle,decide_eq_true hle,hnz,b]
  simp
theorem wok_lex {w:Str} (h:WOk w) {r:Str} (hb:Bl r):lexT (w++r)=(tokW w,true):=by
 cases h with
 |name h=>
  have h':=h
  simp only[qdv,wb,Bool.not_eq_true']at h'
  obtain⟨c,t,hw,hc,h24,hs⟩:=qf4 h'.1
  rw[tok_name h]
  rw[←hw]at h24 hs
  rw[qn1 hw (qo9 _ hc) (by rw[hc];rfl) hs h24 hb,h'.2,qpa _ hc];rfl
 |con h=>
  obtain⟨c,t,hw,hc,h24,hs⟩:=qf4 h
  rw[tok_con h]
  rw[←hw]at h24 hs
  have hn:wordL.any (w== ·)=false:=by rw[hw];exact qtb c t hc
  rw[qn1 hw (qu6 _ hc) (by rw[hc];simp) hs h24 hb,hn,hc];rfl
 |word h=>
  obtain⟨h1,h2,h3,h4⟩:=qzn w h
  obtain⟨c,t,hw⟩:∃c t,w=c::t:=by
   cases w with
   |nil=>exact absurd rfl h4
   |cons c t=>exact⟨c,t,rfl⟩
  have hlow:qet c.toNat=true:=by have:=qta w h;rw[hw]at this;exact this
  have hany:=mem_any h
  rw[qn1 hw (qo9 _ hlow) (by rw[hlow];rfl) h2 h3 hb,hany]
  unfold tokW;rw[h1];rfl
 |sign h=>
  rw[sign_lex h hb]
  unfold tokW;rw[sign_tok w h];rfl
 |int n h0 h1=>rw[int_lex h0 h1 hb,tok_int h0 h1]
theorem q1u {w:Str} (h:WOk w) {r:Str} (hb:Bl r):gapS false (w++r)=0:=by
 have noblank:∀(c:UInt8) (t:Str),qfb c.toNat=false→¬(c=45∧t.head? =some 45)→gapS false (c::t)=0:=by
  intro c t h1 h2
  simp only[gapS,h1,if_neg h2];rfl
 have inner:∀c:UInt8,qba c.toNat=true→qfb c.toNat=false∧c≠45:=by
  intro c hc
  have hr:qba c.toNat=true→qfb c.toNat=false:=by
   intro h
   unfold qba qet qd8 qby at h
   unfold qfb
   simp only[Bool.or_eq_true,wb,decide_eq_true_eq,beq_iff_eq]at h
   simp only[Bool.or_eq_false_iff,beq_eq_false_iff_ne,ne_eq]
   omega
  refine⟨hr hc,fun e=> ?_⟩
  subst e;revert hc;decide
 have wl:∀(c:UInt8) (t:Str),w=c::t→qba c.toNat=true→gapS false (w++r)=0:=by
  intro c t hw hc
  obtain⟨h1,h2⟩:=inner c hc
  rw[hw,wc]
  exact noblank c _ h1 (fun h=>h2 h.1)
 cases h with
 |name h=>
  simp only[qdv,wb]at h
  obtain⟨c,t,hw,hc,_,_⟩:=qf4 h.1
  exact wl c t hw (by unfold qba;rw[hc];rfl)
 |con h=>
  obtain⟨c,t,hw,hc,_,_⟩:=qf4 h
  exact wl c t hw (by unfold qba;rw[hc];simp)
 |word h=>
  obtain⟨h1,h2,h3,h4⟩:=qzn w h
  obtain⟨c,t,hw⟩:∃c t,w=c::t:=by
   cases w with
   |nil=>exact absurd rfl h4
   |cons c t=>exact⟨c,t,rfl⟩
  have hlow:qet c.toNat=true:=by have:=qta w h;rw[hw]at this;exact this
  exact wl c t hw (by unfold qba;rw[hlow];rfl)
 |sign h=>
  simp only[quq,wt,wj,or_false]at h
  rcases hb with rfl|⟨t,rfl⟩
  ·rcases h with rfl|rfl|rfl|rfl|rfl|rfl|rfl|rfl|rfl|rfl|rfl|rfl|rfl|rfl|rfl|rfl|rfl|rfl<;>rfl
  ·rcases h with rfl|rfl|rfl|rfl|rfl|rfl|rfl|rfl|rfl|rfl|rfl|rfl|rfl|rfl|rfl|rfl|rfl|rfl<;>rfl
 |int n h0 h1=>
  obtain⟨a,_,c⟩:=qrj h0 h1
  obtain⟨d,t,hw⟩:∃d t,decB n=d::t:=by
   cases hh:decB n with
   |nil=>exact absurd hh c
   |cons d t=>exact⟨d,t,rfl⟩
  have hd:qby d.toNat=true:=by
   rw[hw]at a;unfold qd9 at a
   rw[wh,wb]at a;exact a.1
  exact wl d t hw (by unfold qba;rw[hd];simp)
end Go.Ab
namespace Go.Ab
open Go Go.Ab.Tab
theorem qmj {n:Nat} {v v':AVal} {h:qab} {d:List Nat} (hd:∀x∈d,n≤x) (hr:refs (strip3 v)=[]) (hv:strip3 v=v'):some (CR.ret (qbg n v h d).1 (qbg n v h d).2)=some (CR.ret v' .same):=by
 rw[qa0 n v h d hd hr,hv]
theorem token_c (text:Str) (hT:text.length≤65536) (k:Nat) (hk:k<text.length):C 128 [.ptr 0 0] [.box (qdc text k)]=
 some (.ret (.tuple [.agg (atP text k (lexT (text.drop k)).1).cells,.bool (lexT (text.drop k)).2]) .same):=by
 have c1:qai C [.box [.str text,.int .i64 k,.int .i64 (plc (text.take k)).1,.int .i64 (plc (text.take k)).2],.box [.int .i64 0,.str [],.int .i64 0,.int .i64 0,.int .i64 0]] 186 [.ptr 0 0]=some (.ret (.str (text.drop k)) .same):=
  qcf (c:=C) (b:=0) (H:=[.box (qdc text k),.box noTok.cells]) (rest:=[]) rfl rfl rfl (rest_c text hT k (by omega)) rfl
 obtain⟨c,r,hcr⟩:∃c r,text.drop k=c::r:=by
  cases h:text.drop k with
  |nil=>
   have:=congrArg List.length h
   rw[wg]at this;simp at this;omega
  |cons c r=>exact⟨c,r,rfl⟩
 have hl:(c::r).length≤65536:=by rw[←hcr,wg];omega
 rw[hcr]at c1 ⊢
 have i0:(c::r)[0]? =some c:=rfl
 have d1:=qyi c.toNat
 have d2:=qyh c.toNat
 have d3:=quk c.toNat
 have hsc:qdc text k=[.str text,.int .i64 k,.int .i64 (plc (text.take k)).1,.int .i64 (plc (text.take k)).2]:=rfl
 rw[hsc]
 obtain⟨q,hq⟩:∃q,q=lexT (c::r):=⟨_,rfl⟩
 rw[←hq]
 have hcl:q.1.cells=[.int .i64 q.1.sort,.str q.1.text,.int .i64 q.1.n,.int .i64 q.1.line,.int .i64 q.1.col]:=rfl
 have hat:(atP text k q.1).cells=[.int .i64 q.1.sort,.str q.1.text,.int .i64 q.1.n,.int .i64 (plc (text.take k)).1,.int .i64 (plc (text.take k)).2]:=rfl
 rw[hat]
 cases hd:qby c.toNat
 ·cases hlo:qet c.toNat
  ·cases hu:qd8 c.toNat
   ·have e:lexT (c::r)=qi8 (c::r):=by simp only[lexT,hd,hlo,hu];rfl
    have s1:=sign_c (c::r) hl
    rw[←e,←hq,hcl]at s1
    rw[C_fn rfl Tryz.func128 rfl (by kernel_rfl) (m:=40) rfl];simp only[Z3,simprocAttr,Tryz.f128,qxd,ty,c1,i0,d1 _,d2 _,d3 _,hd,hlo,hu,s1 _]
    exact qmj (by simp[Eff.dirt]) rfl rfl
   ·have e:lexT (c::r)=(qi7 (c::r),decide ((qcm (c::r)).length≤24)):=by simp only[lexT,hd,hlo,hu];rfl
    have s1:Ret C 196 [.str (c::r)] (.tuple [.agg (lexT (c::r)).1.cells,.bool (lexT (c::r)).2]):=by rw[e];exact qxp c r (by unfold qba;rw[hlo,hu];rfl) hl
    rw[←hq,hcl]at s1
    rw[C_fn rfl Tryz.func128 rfl (by kernel_rfl) (m:=40) rfl];simp only[Z3,simprocAttr,Tryz.f128,qxd,ty,c1,i0,d1 _,d2 _,d3 _,hd,hlo,hu,s1 _]
    exact qmj (by simp[Eff.dirt]) rfl rfl
  ·have e:lexT (c::r)=(qi7 (c::r),decide ((qcm (c::r)).length≤24)):=by simp only[lexT,hd,hlo];rfl
   have s1:Ret C 196 [.str (c::r)] (.tuple [.agg (lexT (c::r)).1.cells,.bool (lexT (c::r)).2]):=by rw[e];exact qxp c r (by unfold qba;rw[hlo];rfl) hl
   rw[←hq,hcl]at s1
   rw[C_fn rfl Tryz.func128 rfl (by kernel_rfl) (m:=40) rfl];simp only[Z3,simprocAttr,Tryz.f128,qxd,ty,c1,i0,d1 _,d2 _,hd,hlo,s1 _]
   exact qmj (by simp[Eff.dirt]) rfl rfl
 ·have e:lexT (c::r)=(numT (c::r),qou (c::r)):=by simp only[lexT,hd];rfl
  have s1:Ret C 193 [.str (c::r)] (.tuple [.agg (lexT (c::r)).1.cells,.bool (lexT (c::r)).2]):=by rw[e];exact number_c c r hd hl
  rw[←hq,hcl]at s1
  rw[C_fn rfl Tryz.func128 rfl (by kernel_rfl) (m:=40) rfl];simp only[Z3,simprocAttr,Tryz.f128,qxd,ty,c1,i0,d1 _,hd,s1 _]
  exact qmj (by simp[Eff.dirt]) rfl rfl
theorem qp6 {s:Str} (h:(lexT s).2=true):1≤(lexT s).1.text.length∧(lexT s).1.text.length≤s.length:=by
 cases s with
 |nil=>cases h
 |cons c r=>
  cases hd:qby c.toNat
  ·cases hl:(qet c.toNat||qd8 c.toNat)
   ·have e:lexT (c::r)=qi8 (c::r):=by simp only[lexT,hd,hl];rfl
    rw[e]at h ⊢
    unfold qi8 at h ⊢
    split at h
    ·rename_i x hx
     have h1:=List.find?_some hx
     have h2:=List.mem_of_find?_eq_some hx
     unfold preB at h1
     simp only[wb,decide_eq_true_eq]at h1
     have:∀x∈signL',1≤x.length:=by decide
     exact⟨this x h2,h1.1⟩
    ·cases h
   ·have e:lexT (c::r)=(qi7 (c::r),decide ((qcm (c::r)).length≤24)):=by simp only[lexT,hd,hl];rfl
    rw[e]
    have hin:qba c.toNat=true:=by unfold qba;rw[hl];rfl
    show 1≤(qcm (c::r)).length∧(qcm (c::r)).length≤_
    rw[qte]
    refine⟨?_,qft _ _⟩
    simp only[qay,hin,if_true];omega
  ·have e:lexT (c::r)=(numT (c::r),qou (c::r)):=by simp only[lexT,hd];rfl
   rw[e]
   show 1≤(numD (c::r)).length∧(numD (c::r)).length≤_
   rw[qvu]
   refine⟨?_,qft _ _⟩
   simp only[qay,hd,if_true];omega
theorem qp7 (b:Bool) (s:Str):gapS b s≤s.length:=by
 induction s generalizing b with
 |nil=>cases b<;>exact Nat.le_refl _
 |cons c r ih=>
  have h1:=ih true
  have h2:=ih false
  cases b
  ·simp only[gapS,wa]
   split
   ·omega
   ·split<;>omega
  ·simp only[gapS,wa]
   split<;>omega
theorem qzp (text:Str):∀(f g k:Nat),text.length+1≤f+k→text.length+1≤g+k→k≤text.length→qci text f k=qci text g k:=by
 intro f
 induction f with
 |zero=>intro g k h1 _ h3;omega
 |succ f ih=>
  intro g k h1 h2 h3
  cases g with
  |zero=>omega
  |succ g=>
   have hg:=qp7 false (text.drop k)
   rw[wg]at hg
   rw[qci,qci]
   by_cases he:k+gapS false (text.drop k)=text.length
   ·rw[if_pos he,if_pos he]
   ·rw[if_neg he,if_neg he]
    by_cases hx:(lexT (text.drop (k+gapS false (text.drop k)))).2=true
    ·obtain⟨l1,l2⟩:=qp6 hx
     rw[wg]at l2
     rw[if_pos hx,if_pos hx,ih g _ (by omega) (by omega) (by omega)]
    ·rw[if_neg hx,if_neg hx]
end Go.Ab
