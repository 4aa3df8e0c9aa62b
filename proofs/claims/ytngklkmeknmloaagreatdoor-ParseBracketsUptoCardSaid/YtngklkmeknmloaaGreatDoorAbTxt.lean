/- What three expressions with two operators between are read as. -/
import Derived.Test.YtngklkmeknmloaaGreatDoorAbPrX
import Derived.Test.YtngklkmeknmloaaGreatDoorAbReadT
import Derived.Test.YtngklkmeknmloaaGreatDoorAbEach
import Derived.Test.YtngklkmeknmloaaGreatDoorAbBack
set_option linter.unusedSimpArgs false
set_option linter.unusedVariables false
set_option maxRecDepth 100000
set_option maxHeartbeats 4000000
open Go.Proofs
open List renaming length_cons→wa,map_cons→wb,length_nil→wc,sum_cons→wd,cons_append→we,length_append→wg,nil_append→wh,length_map→wi,idxOf_cons→wj
open Nat renaming add_mul→wk
namespace Go.Ab
open Go Go.Ab.Tab
def J (l:List Str):Str:=qiq [32] l
theorem J_nil:J []=[]:=rfl
theorem J_one (x:Str):J [x]=x:=rfl
theorem qjd (x:Str) (l:List Str) (h:l≠[]):J (x::l)=x++32::J l:=by
 cases l with
 |nil=>exact absurd rfl h
 |cons y r=>show x++[32]++qiq [32] (y::r)=_;simp[J]
theorem J_app (a b:List Str) (ha:a≠[]) (hb:b≠[]):J (a++b)=J a++32::J b:=by
 induction a with
 |nil=>exact absurd rfl ha
 |cons x r ih=>
  cases r with
  |nil=>simp only[we,wh,qjd x b hb,J_one]
  |cons y q=>
   rw[we,qjd x _ (by simp),ih (by simp),qjd x (y::q) (by simp)]
   simp
def T:List Str→Nat
 |[]=>0
 |x::r=>x.length+1+T r
theorem T_app (a b:List Str):T (a++b)=T a+T b:=by
 induction a with
 |nil=>simp[T]
 |cons x r ih=>simp only[we,T,ih];omega
theorem J_len (l:List Str):(J l).length≤T l:=by
 induction l with
 |nil=>simp[J_nil,T]
 |cons x r ih=>
  cases r with
  |nil=>simp[J_one,T]
  |cons y q=>
   rw[qjd x _ (by simp)]
   simp only[wg,wa,T]at ih ⊢
   omega
theorem T_len (l:List Str):l.length≤T l:=by
 induction l with
 |nil=>simp[T]
 |cons x r ih=>simp only[wa,T];omega
def sumT (L:List (List Str)):Nat:=(L.map T).sum
theorem qxb (s:Str) (L:List (List Str)):T (sepW s L)≤sumT L+L.length*(s.length+1):=by
 cases L with
 |nil=>simp[sepW,T,sumT]
 |cons x r=>
  have:T (r.flatMap fun y=>s::y)=(r.map T).sum+r.length*(s.length+1):=by
   induction r with
   |nil=>simp[T]
   |cons y q ih=>
    simp only[List.flatMap_cons,we,T,T_app,ih,wb,wd,wa,wk,Nat.one_mul]
    omega
  simp only[sepW,T_app,this,sumT,wb,wd,wa,wk]
  omega
theorem quy (p:List Str→Prop) (op:Int) (name:Str) (n:Int) (cons:List Str) (ks:List (List Str))
 (h1:p [decB n])
 (h2:p [qmr (n==1)])
 (h3:p [name])
 (h4:p [name])
 (h5:p ([[40],name]++kW ks 0++[[41]]))
 (h6:p (btwW (kW ks 0) name (kW ks 1)))
 (h7:p ([[40],[105,102]]++kW ks 0++[[116,104,101,110]]++kW ks 1++[[101,108,115,101]]++kW ks 2++[[41]]))
 (h8:p (btwW (kW ks 0) [102,98,121] (kW ks 1)))
 (h10:p (btwW (kW ks 0) [45,62] (kW ks 1)))
 (h15:p (btwW (kW ks 0) [101,118,101,114,121] (kW ks 1)))
 (h9:p ([[40],[112,114,101]]++kW ks 0++[[41]]))
 (h11:p ([[40]]++kW ks 0++[[119,104,101,110]]++qer cons [44]++[[40],name,[41],[41]]))
 (h12:p (qjp [109,101,114,103,101] name cons ks))
 (h13:p (qjp [109,97,116,99,104] name cons ks))
 (h14:p (qms name cons ks))
 (h0:p [[63]]):p (qmx op name n cons ks):=by
 unfold qmx
 by_cases c1:op=1
 ·rw[if_pos c1];exact h1
 rw[if_neg c1]
 by_cases c2:op=2
 ·rw[if_pos c2];exact h2
 rw[if_neg c2]
 by_cases c3:op=3
 ·rw[if_pos c3];exact h3
 rw[if_neg c3]
 by_cases c4:op=4
 ·rw[if_pos c4];exact h4
 rw[if_neg c4]
 by_cases c5:op=5
 ·rw[if_pos c5];exact h5
 rw[if_neg c5]
 by_cases c6:op=6
 ·rw[if_pos c6];exact h6
 rw[if_neg c6]
 by_cases c7:op=7
 ·rw[if_pos c7];exact h7
 rw[if_neg c7]
 by_cases c8:op=8
 ·rw[if_pos c8];exact h8
 rw[if_neg c8]
 by_cases c10:op=10
 ·rw[if_pos c10];exact h10
 rw[if_neg c10]
 by_cases c15:op=15
 ·rw[if_pos c15];exact h15
 rw[if_neg c15]
 by_cases c9:op=9
 ·rw[if_pos c9];exact h9
 rw[if_neg c9]
 by_cases c11:op=11
 ·rw[if_pos c11];exact h11
 rw[if_neg c11]
 by_cases c12:op=12
 ·rw[if_pos c12];exact h12
 rw[if_neg c12]
 by_cases c13:op=13
 ·rw[if_pos c13];exact h13
 rw[if_neg c13]
 by_cases c14:op=14
 ·rw[if_pos c14];exact h14
 rw[if_neg c14]
 exact h0
theorem qne (e:PExpr):e.words≠[]:=by
 rw[qas]
 apply quy (fun l=>l≠[])<;>simp[btwW,qjp,qms]
theorem qvi:∀(f n:Nat),(decN f n).length≤f+1
 |0,n=>by simp[decN]
 |f+1,n=>by
  unfold decN
  split
  ·simp
  ·have:=qvi f (n/10)
   simp only[wg,wa,wc];omega
theorem decB_len (n:Int):(decB n).length≤22:=by
 unfold decB
 split
 ·have:=qvi 20 n.natAbs;simp only[wa];omega
 ·have:=qvi 20 n.toNat;omega
theorem boolW_len (b:Bool):(qmr b).length≤5:=by cases b<;>simp[qmr]
theorem kW_T (ks:List (List Str)):T (kW ks 0)+T (kW ks 1)+T (kW ks 2)≤sumT ks+6:=by
 rcases ks with _|⟨a,_|⟨b,_|⟨c,r⟩⟩⟩<;>simp[kW,T,sumT]<;>omega
def qlp (l:List Str):Nat:=qcs (fun s:Str=>s.length+1) l
theorem listW_T (l:List Str) (s:Str):T (qer l s)≤qlp l+l.length*(s.length+1):=by
 have h:=qxb s (l.map fun x=>[x])
 have:sumT (l.map fun x=>[x])=qlp l:=by
  induction l with
  |nil=>rfl
  |cons x r ih=>
   have:=ih (qxb s (r.map fun x=>[x]))
   simp only[sumT,qlp,wb,wd,qcs,T]at this ⊢
   omega
 unfold qer
 rw[this,wi]at h
 exact h
theorem armL_T (cons:List Str) (ks:List (List Str)):sumT (armL cons ks)+(armL cons ks).length*2≤6*qlp cons+sumT ks:=by
 induction cons generalizing ks with
 |nil=>simp[armL,sumT,qlp,qcs]
 |cons c r ih=>
  cases ks with
  |nil=>simp[armL,sumT]
  |cons k q=>
   have:=ih q
   simp only[armL,sumT,qlp,List.zipWith_cons_cons,wb,wd,wa,qcs,T_app,T,wc]at this ⊢
   omega
theorem consT_len (l:List Str):l.length≤qlp l:=qgv _ (fun _=>by omega) l
theorem qpv (e:PExpr):T e.words+100≤40*e.bulk:=by
 induction e using PExpr.induct with
 |h op name n cons kids ih=>
  have hk:sumT (kids.map PExpr.words)+100*kids.length≤40*PExpr.bulkL kids∧kids.length≤PExpr.bulkL kids:=by
   clear n
   induction kids with
   |nil=>simp[sumT,PExpr.bulkL]
   |cons x r ihr=>
    have h1:=ih x (by simp)
    have h2:=ihr (fun k hk=>ih k (by simp[hk]))
    have h3:6≤x.bulk:=by cases x;simp only[PExpr.bulk];omega
    simp only[sumT,wb,wd,PExpr.bulkL,wa]at h2 ⊢
    omega
  have hb:(PExpr.mk op name n cons kids).bulk=name.length+qlp cons+PExpr.bulkL kids+6:=by simp[PExpr.bulk,qlp]
  rw[hb]
  simp only[PExpr.words,qw9]
  have k0:=kW_T (kids.map PExpr.words)
  have d:=decB_len n
  have b:=boolW_len (n==1)
  have l1:=listW_T cons [44]
  have l2:=consT_len cons
  have a1:=armL_T cons (kids.map PExpr.words)
  have a2:=qxb [124] (armL cons (kids.map PExpr.words))
  have c1:=qxb [44] (kids.map PExpr.words)
  simp only[wi,wa,wc]at l1 a2 c1
  have l3:cons.length=0→True:=fun _=>trivial
  apply quy (fun l=>T l+100≤40*(name.length+qlp cons+PExpr.bulkL kids+6))
  all_goals simp only[btwW,qjp,qms,brW,T_app,T,wa,wc]
  all_goals first|omega|(split<;>simp only[T_app,T,wa,wc]<;>omega)
end Go.Ab
namespace Go.Ab
open Go Go.Ab.Tab
theorem strsA_enc (l:List Str):qlh (encS l)=some l:=by
 induction l with
 |nil=>rfl
 |cons x r ih=>simp only[encS,wb]at ih ⊢;simp only[qlh,ih,Option.map_some]
theorem join_own (ws:List Str) (hl:T ws≤qac) (tk:Tk) (h:qab):C 107 [.slice (encS ws) tk,.str [32]] h=some (.ret (.str (J ws)) .same):=by
 have h1:=T_len ws
 have h2:=J_len ws
 have m2:qac=1099511627776:=rfl
 have m3:qhx=140737488355328:=rfl
 unfold C
 rw[qtb ext_join]
 show(match qlh (encS ws)with|some l=>if l.length≤qhx∧(qiq [32] l).length≤qhx then some (CR.ret (.str (qiq [32] l)) Eff.same)else none|none=>none)=_
 rw[strsA_enc]
 have h3:ws.length≤qhx∧(qiq [32] ws).length≤qhx:=⟨by omega,by unfold J at h2;omega⟩
 exact if_pos h3
theorem text_c (ws:List Str) (hl:T ws≤qac):C 55 [.ptr 0 0] (pOwn 9 ws)=some (.ret (.str (J ws)) .same):=by
 have e1:qah C [.box [.slice (encS ws) (.own 1)],.tok ws.length 9] 107 [.slice (encS ws) (.own 1),.str [32]]=some (.ret (.str (J ws)) .same):=
  qn5 [1] rfl rfl (by
   have e:renL (fun x=>List.idxOf x [1]) [.slice (encS ws) (.own 1),.str [32]]=[.slice (encS ws) (.own 0),.str [32]]:=rfl
   rw[e];exact join_own ws hl _ _) rfl
 rw[C_fn rfl Tryz.func55 rfl (by kernel_rfl) (m:=7) rfl];simp only[Z3,simprocAttr,Tryz.f55,fx_55,pOwn,e1,qa3 2 _ _ [] (by simp)]
theorem pr_read {f:FuncId} {v:AVal} {h:qab} {b t:Nat} {ws:List Str} (p:PrAt 9 h b ws (some t)) (e:C f [.ptr 0 0] (pOwn 9 ws)=some (.ret v .same)) (hv:refs v=[]):qah C h f [.ptr b 0]=some (.ret v .same):=by
 obtain⟨hb,ht⟩:=p
 have hne:t≠b:=by intro e;subst e;rw[hb]at ht;cases ht
 have hnb:(b==t)=false:=beq_false_of_ne (Ne.symm hne)
 refine qn5 [b,t] ?_ ?_ ?_ hv
 ·simp[qbq,qad,refs,hb,ht,hne]
 ·unfold qcz;simp[qad,refs,hb,ht,qdj]
 ·have hsub:subH h [b,t]=pOwn 9 ws:=by
   simp only[subH,wb,List.map_nil,List.getD_eq_getElem?_getD,hb,ht,Option.getD_some,renB,qri,pOwn,wj,hnb,beq_self_eq_true,cond_true,cond_false]
  rw[hsub]
  simp only[renL,ren,wj,beq_self_eq_true,cond_true]
  exact e
theorem qst (e:PExpr) (hs:e.Small) (hr:e.Rng) (hb:e.bulk≤16777216):Ret C 23 [.agg e.cells] (.str (J e.words)):=by
 refine Ret.mk (by simp[qad,refs,e.norefs]) rfl ?_
 have hT:=qpv e
 have hTl:=T_len e.words
 have m2:qac=1099511627776:=rfl
 have p0:PrAt 9 [.box e.cells,.box [.slice [] .full]] 1 [] none:=⟨rfl,rfl⟩
 rw[C_fn rfl Tryz.func23 rfl (by kernel_rfl) (m:=10) rfl];simp only[Z3,simprocAttr,Tryz.f23,fx_23]
 obtain⟨E1,hE1,t,-,-,p1,o1,l1⟩:=qds qay (prexpr_c e hs hr) (by simp[qad,refs,e.norefs]) p0 (by simp only[wc];omega)
 have hx:=pr_read p1 (text_c ([]++e.words) (by simp only[wh];omega)) rfl
 simp only[Z3,simprocAttr,effs,fx_23,hE1,hx]
end Go.Ab
namespace Go.Ab
open Go Go.Ab.Tab
end Go.Ab
namespace Go.Ab
open Go Go.Ab.Tab
theorem q1m {e:PExpr} (g:Good e):e.Rng→Back e∧Fst e:=by
 induction g with
 |int n h=>
  intro hr
  refine⟨?_,qe3 (.int n h) hr.n⟩
  intro o r _ _
  have hw:(eInt n).words=[decB n]:=by rw[qas];rfl
  rw[hw,tw1,qx6 h hr.n.2];exact Ev.pure fun _ _=>rfl
 |bool n h=>
  intro hr
  refine⟨?_,qe3 (.bool n h) hr.n⟩
  intro o r _ _
  rcases h with rfl|rfl<;>(rw[qas];exact Ev.pure fun _ _=>rfl)
 |con s h=>
  intro hr
  refine⟨?_,qe3 (.con s h) hr.n⟩
  intro o r _ _
  have hw:(eCon s).words=[s]:=by rw[qas];rfl
  rw[hw,tw1,qpr h];exact Ev.pure fun _ _=>rfl
 |var s h=>
  intro hr
  refine⟨?_,qe3 (.var s h) hr.n⟩
  intro o r _ hs
  have hw:(eVar s).words=[s]:=by rw[qas];rfl
  rw[hw,tw1,qil h,tw0]
  refine Ev.congr (g:=fun m n=>if hasS [91] r||hasS [40] r then qi0 m (pE n) o s r else .ok (eVar s) r) (fun m n=>rfl) (Ev.pure fun m n=> ?_)
  rw[hs.1,hs.2];rfl
 |un s k h g ih=>
  intro hr
  have i1:=ih (hr.kids k (by simp[eUn,PExpr.kids]))
  exact⟨back_un s k h i1.1 i1.2,qe3 (.un s k h g) hr.n⟩
 |bin s a b h ga gb iha ihb=>
  intro hr
  have i1:=iha (hr.kids a (by simp[eBin,PExpr.kids]));have i2:=ihb (hr.kids b (by simp[eBin,PExpr.kids]))
  exact⟨back_bin s a b h i1.1 i1.2 i2.1 i2.2,qe3 (.bin s a b h ga gb) hr.n⟩
 |cond a b c ga gb gc iha ihb ihc=>
  intro hr
  have i1:=iha (hr.kids a (by simp[eIf,PExpr.kids]));have i2:=ihb (hr.kids b (by simp[eIf,PExpr.kids]));have i3:=ihc (hr.kids c (by simp[eIf,PExpr.kids]))
  exact⟨back_if a b c i1.1 i1.2 i2.1 i2.2 i3.1 i3.2,qe3 (.cond a b c ga gb gc) hr.n⟩
 |fby a b ga gb iha ihb=>
  intro hr
  have i1:=iha (hr.kids a (by simp[eFby,PExpr.kids]));have i2:=ihb (hr.kids b (by simp[eFby,PExpr.kids]))
  exact⟨back_fby a b i1.1 i1.2 i2.1 i2.2,qe3 (.fby a b ga gb) hr.n⟩
 |pre k g ih=>
  intro hr
  have i1:=ih (hr.kids k (by simp[ePre,PExpr.kids]))
  exact⟨back_pre k i1.1 i1.2,qe3 (.pre k g) hr.n⟩
 |arrow a b ga gb iha ihb=>
  intro hr
  have i1:=iha (hr.kids a (by simp[qd8,PExpr.kids]));have i2:=ihb (hr.kids b (by simp[qd8,PExpr.kids]))
  exact⟨q45 a b i1.1 i1.2 i2.1 i2.2,qe3 (.arrow a b ga gb) hr.n⟩
 |when x c k hx hc g ih=>
  intro hr
  have i1:=ih (hr.kids k (by simp[qgw,PExpr.kids]))
  exact⟨back_when x c k hx hc i1.1 i1.2,qe3 (.when x c k hx hc g) hr.n⟩
 |arms op x cons kids hop hx hl h1 hc hk ih=>
  intro hr
  refine⟨?_,qe3 (.arms op x cons kids hop hx hl h1 hc hk) hr.n⟩
  have hb:=fun k hk=>ih k hk (hr.kids k hk)
  rcases hop with rfl|rfl
  ·exact qy7 12 _ (.inl ⟨rfl,rfl⟩) x cons kids hx hl h1 hc hb
  ·exact qy7 13 _ (.inr ⟨rfl,rfl⟩) x cons kids hx hl h1 hc hb
 |call x cons kids hx hc h3 hk ih=>
  intro hr
  exact⟨back_call x cons kids hx hc h3 (fun k hk=>ih k hk (hr.kids k hk)),qe3 (.call x cons kids hx hc h3 hk) hr.n⟩
 |every a b hop ga gb iha ihb=>
  intro hr
  have i1:=iha (hr.kids a (by simp[qe1,PExpr.kids]));have i2:=ihb (hr.kids b (by simp[qe1,PExpr.kids]))
  exact⟨q46 a b hop i1.1 i1.2 i2.1 i2.2,qe3 (.every a b hop ga gb) hr.n⟩
def tEnd:PTok:=⟨6,[],0,0,0⟩
end Go.Ab
namespace Go.Ab
open Go Go.Ab.Tab
def opsL:List Str:=[[45,62],[102,98,121],[111,114],[97,110,100],[60],[43],[42]]
def opN (i:Nat):Str:=opsL.getD i []
def twoE (s:Str) (a b:PExpr):PExpr:=if s==[102,98,121]then eFby a b else if s==[45,62]then qd8 a b else eBin s a b
theorem qq6:∀i,i<7→qa2 (opN i)=i+1:=by decide
theorem opN_sort:∀i,i<7→(qjo (opN i)==4||qjo (opN i)==5)=true:=by decide
theorem opN_ne:∀i,i<7→(opN i==[91])=false∧(opN i==[40])=false∧(opN i==[119,104,101,110])=false∧(opN i==[101,118,101,114,121])=false:=by decide
theorem qnf {i:Nat} (h:i<7) (r:List PTok):qap (tokW (opN i)::r)=opN i:=by
 have:=opN_sort i h
 simp only[qap,tokW,this,if_true]
theorem qvj {i:Nat} (h:i<7) (r:List PTok):stopU (tokW (opN i)::r):=by
 obtain⟨a,b,c,d⟩:=opN_ne i h
 have hs:∀s:Str,(opN i==s)=false→hasS s (tokW (opN i)::r)=false:=fun s e=>by
  simp only[hasS,qn7,tokW,e,Bool.and_false]
 exact⟨⟨hs _ a,hs _ b⟩,hs _ c,hs _ d⟩
def Kid (o:Nat) (k:PExpr):Prop:=∀r,stopU r→Ev (fun _ n=>pE n o 0 (toks k.words++r)) (.ok k r)
def lvl (i:Nat):Nat:=if i=0 then 1 else if i=1 then 2 else i+2
def mst (i:Nat):Nat:=if i=1 then 1 else if i=4 then 4 else i+1
section
variable {o least most:Nat} {x y:PExpr} {ts ts':List PTok} {X:PR PExpr}
theorem qoc (h:qa2 (qap ts)<least∨most<qa2 (qap ts)):Ev (fun m n=>qcm (pE n) o least m most x ts) (.ok x ts):=
 Ev.succ (g:=fun _ _=> .ok x ts) (fun m n=>by simp only[qcm];rw[if_pos h]) (Ev.pure fun _ _=>rfl)
theorem qq7 {i:Nat} (hi:i=0) (h1:least≤1) (h2:1≤most) (h:Ev (fun _ n=>pE n o 1 ts) (.ok y ts')):Ev (fun m n=>qcm (pE n) o least m most x (tokW (opN i)::ts)) (.ok (twoE (opN i) x y) ts'):=by
 subst hi
 refine Ev.succ (g:=fun _ n=>(pE n o 1 ts).bind fun r ts=> .ok (qd8 x r) ts) (fun m n=> ?_) (Ev.bind h (Ev.pure fun _ _=>rfl))
 have e:qa2 (qap (tokW (opN 0)::ts))=1:=by rw[qnf (by decide)];rfl
 simp only[qcm]
 rw[if_neg (by rw[e];omega),if_pos e];rfl
theorem qod {i:Nat} (hi:0<i) (h7:i<7) (h1:least≤i+1) (h2:i+1≤most) (h:Ev (fun _ n=>pE n o (lvl i) ts) (.ok y ts')) (k:Ev (fun m n=>qcm (pE n) o least m (mst i) (twoE (opN i) x y) ts') X):
 Ev (fun m n=>qcm (pE n) o least m most x (tokW (opN i)::ts)) X:=by
 refine Ev.succ (g:=fun m n=>(pE n o (lvl i) ts).bind fun r ts'=>qcm (pE n) o least m (mst i) (twoE (opN i) x r) ts') (fun m n=> ?_) (Ev.bind h k)
 have e:qa2 (qap (tokW (opN i)::ts))=i+1:=by rw[qnf h7];exact qq6 i h7
 simp only[qcm]
 rw[if_neg (by rw[e];omega),if_neg (by rw[e];omega),qnf h7,qq6 i h7]
 by_cases h1:i=1
 ·subst h1;rfl
 ·have t:∀r,twoE (opN i) x r=eBin (opN i) x r:=by
   intro r
   have:∀j,j<7→j≠0→j≠1→(opN j==[102,98,121])=false∧(opN j==[45,62])=false:=by decide
   obtain⟨a,b⟩:=this i h7 (by omega) h1
   simp only[twoE,a,b];rfl
  have l:lvl i=i+1+1:=by unfold lvl;rw[if_neg (by omega),if_neg h1]
  have q:mst i=if i+1=5 then 4 else i+1:=by unfold mst;rw[if_neg h1];by_cases h4:i=4<;>simp[h4]
  rw[if_neg (by omega)]
  simp only[t,l,q,List.tail_cons]
variable {i k:Nat} {a b c:PExpr} {e:List PTok}
theorem qua (hk:Kid o c) (hl:least≠0) (he:qkv e):Ev (fun _ n=>pE n o least (toks c.words++e)) (.ok c e):=Ev.infStop hl (hk _ he.1) he.2
theorem q1n (h7:k<7) (hb:Kid o b) (hc:Kid o c) (hl:least≠0) (h:least≤k+1) (he:qkv e):Ev (fun _ n=>pE n o least (toks b.words++tokW (opN k)::(toks c.words++e))) (.ok (twoE (opN k) b c) e):=by
 refine Ev.inf hl (hb _ (qvj h7 _)) ?_
 by_cases h0:k=0
 ·exact qq7 h0 (by omega) (by decide) (qua hc (by decide) he)
 ·refine qod (by omega) h7 h (by omega) (qua hc (by unfold lvl;rw[if_neg h0];split<;>omega) he) (qoc (.inl ?_))
  rw[he.2];omega
theorem read_one (h7:k<7) (hb:Kid o b) (hl:least≠0) (h:k+1<least):Ev (fun _ n=>pE n o least (toks b.words++tokW (opN k)::ts)) (.ok b (tokW (opN k)::ts)):=by
 refine Ev.inf hl (hb _ (qvj h7 _)) (qoc (.inl ?_))
 rw[qnf h7,qq6 k h7];exact h
theorem q49 (hi:i<7) (hk:k<7) (ha:Kid o a) (hb:Kid o b) (hc:Kid o c) (he:qkv e):
 Ev (fun _ n=>pE n o 1 (toks a.words++tokW (opN i)::(toks b.words++tokW (opN k)::(toks c.words++e)))) (if i=4∧k=4 then .ok (twoE (opN i) a b) (tokW (opN k)::(toks c.words++e))
  else if i<k∨i=k∧i<2 then .ok (twoE (opN i) a (twoE (opN k) b c)) e else .ok (twoE (opN k) (twoE (opN i) a b) c) e):=by
 refine Ev.inf (by decide) (ha _ (qvj hi _)) ?_
 have fin:∀(most:Nat) (z:PExpr),Ev (fun m n=>qcm (pE n) o 1 m most z e) (.ok z e):=fun most z=>qoc (.inl (by rw[he.2];omega))
 by_cases h0:i=0
 ·rw[if_neg (by omega),if_pos (by omega)]
  exact qq7 h0 (by omega) (by decide) (q1n hk hb hc (by decide) (by omega) he)
 have hl:lvl i≠0:=by unfold lvl;rw[if_neg h0];split<;>omega
 by_cases hr:i<k∨i=k∧i<2
 ·rw[if_neg (by omega),if_pos hr]
  refine qod (by omega) hi (by omega) (by omega) (q1n hk hb hc hl ?_ he) (fin _ _)
  unfold lvl;rw[if_neg h0];split<;>omega
 ·have h1:k+1<lvl i:=by unfold lvl;rw[if_neg h0];split<;>omega
  refine qod (by omega) hi (by omega) (by omega) (read_one hk hb hl h1) ?_
  by_cases h4:i=4∧k=4
  ·rw[if_pos h4]
   refine qoc (.inr ?_)
   rw[qnf hk,qq6 k hk];unfold mst;rw[if_neg (by omega),if_pos h4.1];omega
  ·rw[if_neg h4,if_neg hr]
   have hm:k+1≤mst i:=by
    unfold mst;split
    ·omega
    ·split<;>omega
   by_cases hk0:k=0
   ·exact qq7 hk0 (by omega) (by omega) (qua hc (by decide) he)
   ·exact qod (by omega) hk (by omega) hm (qua hc (by unfold lvl;rw[if_neg hk0];split<;>omega) he) (fin _ _)
end
end Go.Ab
