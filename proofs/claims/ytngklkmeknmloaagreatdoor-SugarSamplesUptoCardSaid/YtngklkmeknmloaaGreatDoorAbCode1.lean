/- Regions whose order is open: any order gives what the order of the text gives. -/
import Derived.Test.YtngklkmeknmloaaGreatDoorAbOp9
import Derived.Orders
set_option linter.unusedSimpArgs false
set_option linter.unusedVariables false
set_option maxRecDepth 100000
set_option maxHeartbeats 4000000
open Bool renaming and_eq_true→wa,or_eq_true→wb,not_eq_true'→wd,false_or→wj,not_true→wq
open List renaming contains_eq_mem→wc,getElem?_set_ne→we,all_eq_true→wg,getElem?_eq_some_iff→wh,getElem?_append_left→wk,mem_map→wt
open Array renaming getElem?_toList→wi
open Nat renaming le_refl→wl,le_of_lt→wu
open Option renaming map_some→wm,all_some→wo
namespace Go.Ab
variable {P:Program}
theorem qba {S:Sh} {ops:Array Oper} {o:Oper} {ts:List AVal} {a:Act} {b:Bool} (ht:VRl S ts a.tmps.toList) (e:qap ops.toList o ts=some b):
 Region.wanted o (yielded ops a.tmps)=b:=by
 unfold qap at e
 unfold Region.wanted
 split at e
 ·rename_i hg;cases e;simp[hg]
 ·rename_i j want hg
  simp only[hg]
  split at e
  ·rename_i oj hj
   rw[wi]at hj
   split at e
   ·rename_i d hd
    split at e
    ·rename_i c hc
     cases e
     obtain⟨v,hv,hr⟩:=ht.get hc
     rw[wi]at hv
     cases hr
     simp[yielded,hj,hd,hv]
    ·rename_i hc
     cases e
     obtain⟨v,hv,hr⟩:=ht.get hc
     rw[wi]at hv
     cases hr
     simp[yielded,hj,hd,hv]
    ·cases e
   ·cases e
  ·cases e
theorem qc6 {S:Sh} {ts:List AVal} {a:Act} {u:AVal} {v:Value} (ht:VRl S ts a.tmps.toList) (hv:VR S u v) (dst:Option Tmp):VRl S (setT ts dst u) (a.put dst v).tmps.toList:=by
 cases dst with
 |none=>exact ht
 |some d=>simpa[setT,Act.put]using ht.set d hv
theorem qb1 (a:Act) (dst:Option Tmp) (v:Value):(a.put dst v).defers=a.defers:=by cases dst<;>rfl
def TmR (S:Sh) (x:AEx×St) (ts:List Value):Prop:=VRl S x.2.tmps ts∨((∃v,x.1= .pan v)∧x.2.tmps=[])
theorem TmR.vr {S:Sh} {ex:AEx} {s:St} {ts:List Value} (h:TmR S (ex,s) ts) (hn:∀v,ex≠ .pan v):VRl S s.tmps ts:=by
 rcases h with h|⟨⟨v,h⟩,_⟩
 ·exact h
 ·exact(hn v h).elim
def Post (P:Program) [Tabs P] (S:Sh) (w:World) (ds:List Deferred) (Q:Exit→Act→World→Prop) (x:AEx×St):Prop:=
 ∀S' w' a',Step P S w S' x.2.heap w'→TmR S' x a'.tmps.toList→a'.defers=ds→
  match x.1 with
  | .normal=>Q .normal a' w'
  | .exit id=>Q (.exit id) a' w'
  | .ret=>Q .ret a' w'
  | .pan u=>∀v,VR S' u v→Q (.panic [{ v,recovered:=false }]) a' w'
theorem Post.later [Tabs P] {S S1:Sh} {w w1:World} {h1:qaa} {ds:List Deferred} {Q:Exit→Act→World→Prop} {x:AEx×St} (k:Post P S w ds Q x) (st:Step P S w S1 h1 w1):Post P S1 w1 ds Q x:=
 fun S' w' a' h ht hd=>k S' w' a' (st.trans h) ht hd
theorem qii [Tabs P] {cmp:List TypeId} (hcmp:∀t∈cmp,qcm P t=true) {call:Call} (hcall:qbd P call) (hkeep:qan call) (ops:Array Oper) {Q:Exit→Act→World→Prop} {ds:List Deferred}:
 ∀(m n:Nat) (s:St) (x:AEx×St) (a:Act) (S:Sh) (w:World),n+m=ops.size→WR P S s.heap w→VRl S s.tmps a.tmps.toList→a.defers=ds→
  opsA P cmp call ops.toList (ops.toList.drop n) s=some x→Post P S w ds Q x→wpOps P ops Q (List.range' n m) a w
 |0,n,s,x,a,S,w,hn,k,ht,hd,e,hp=>by
  rw[List.drop_eq_nil_of_le (by simp;omega)]at e
  cases e
  exact hp S w a (.refl k) (.inl ht) hd
 |m+1,n,s,x,a,S,w,hn,k,ht,hd,e,hp=>by
  have hlt:n<ops.size:=by omega
  have hg:ops[n]? =some ops[n]:=Array.getElem?_eq_getElem hlt
  rw[show ops.toList.drop n=ops[n]::ops.toList.drop (n+1) by
   rw[←Array.getElem_toList (h:=hlt)];exact(List.drop_eq_getElem_cons (by simpa using hlt))]at e
  rw[List.range'_succ]
  unfold wpOps
  simp only[hg]
  unfold opsA at e
  split at e
  ·rename_i hw
   rw[if_pos (qba ht hw)]
   refine .inl ?_
   split at e
   ·rename_i v f ho
    refine qcu hcmp hcall hkeep k ht ho ?_
    intro v' S' w' st hv
    exact qii hcmp hcall hkeep ops m (n+1) _ x _ S' w' (by omega) st.wr (qc6 (ht.ext st.ext) hv _) (by rw[qb1];exact hd) e (hp.later st)
   ·rename_i v f ho
    cases e
    refine qcu hcmp hcall hkeep k ht ho ?_
    intro v' S' w' st hv
    exact hp S' w' a st (.inl (ht.ext st.ext)) hd v' hv
   ·cases e
  ·rename_i hw
   rw[if_neg (by rw[qba ht hw];simp)]
   exact qii hcmp hcall hkeep ops m (n+1) ⟨setT s.tmps ops[n].dst .undef,s.heap,s.dirty⟩ x _ S w (by omega) k (qc6 ht .undef _) (by rw[qb1];exact hd) e hp
  ·cases e
theorem qpu [Tabs P] {cmp:List TypeId} (hcmp:∀t∈cmp,qcm P t=true) {call:Call} (hcall:qbd P call) (hkeep:qan call) {id:Nat} {ops:Array Oper} {Q:Exit→Act→World→Prop} {ds:List Deferred}
 {s:St} {x:AEx×St} {a:Act} {S:Sh} {w:World} (k:WR P S s.heap w) (ht:VRl S s.tmps a.tmps.toList) (hd:a.defers=ds)
 (e:opsA P cmp call ops.toList ops.toList s=some x) (hp:Post P S w ds Q x):(Code.region id ops false).wp P Q a w:=by
 refine wp_region ?_
 have:=qii hcmp hcall hkeep ops (Q:=Q) (ds:=ds) ops.size 0 s x a S w (by omega) k ht hd (by simpa using e) hp
 rwa [List.range_eq_range']
end Go.Ab
namespace Go.Ab
variable {P:Program} {cmp:List TypeId} {call:Call}
theorem qsd {l:List Operand} {t:Tmp} (h:Operand.tmp t∈l):t∈qbw l:=by
 unfold qbw
 exact List.mem_filterMap.2 ⟨_,h,rfl⟩
theorem qad {ts ts':List AVal} {l:List Operand} (h:∀t∈qbw l,ts'[t]? =ts[t]?) {x:Operand} (hx:x∈l):qab x ts'=qab x ts:=by
 cases x with
 |tmp t=>exact h t (qsd hx)
 |const v=>rfl
 |global g=>rfl
 |func f=>rfl
theorem qfo {ts ts':List AVal} {l:List Operand} (h:∀t∈qbw l,ts'[t]? =ts[t]?):∀{xs:List Operand},(∀x∈xs,x∈l)→qao ts' xs=qao ts xs
 |[],_=>rfl
 |x::xs,hx=>by
  simp only[qao,qad h (hx x (by simp)),qfo (xs:=xs) h (fun y hy=>hx y (by simp[hy]))]
theorem qgq {ts ts':List AVal} {l:List Operand} (h:∀t∈qbw l,ts'[t]? =ts[t]?):∀{xs:List (Nat×Operand)},(∀x∈xs,x.2∈l)→qau ts' xs=qau ts xs
 |[],_=>rfl
 |(i,x)::xs,hx=>by
  simp only[qau,qad h (hx (i,x) (by simp)),qgq (xs:=xs) h (fun y hy=>hx y (by simp[hy]))]
theorem qij {ts ts':List AVal} {l:List Operand} (h:∀t∈qbw l,ts'[t]? =ts[t]?) {x:Option Operand} (hx:∀y,x=some y→y∈l):optA ts' x=optA ts x:=by
 cases x with
 |none=>rfl
 |some y=>simp only[optA,qad h (hx y rfl)]
theorem qet {o:Oper} {ts ts':List AVal} {h:qaa} (hc:∀t∈qbw o.op.operands.toList,ts'[t]? =ts[t]?):opA P cmp call o ts' h=opA P cmp call o ts h:=by
 obtain⟨dst,op,type,pos,after,guard⟩:=o
 cases op with
 |makeFunc fn first cap=>
  have h1:qao ts' first.toList=qao ts first.toList:=qfo hc (fun x hx=>by simp[Op.operands]at hx ⊢;exact .inl hx)
  have h2:qao ts' cap.toList=qao ts cap.toList:=qfo hc (fun x hx=>by simp[Op.operands]at hx ⊢;exact .inr hx)
  cases fn<;>simp only[opA,h1,h2]
 |build t ps=>
  have h1:qau ts' ps.toList=qau ts ps.toList:=qgq hc (fun x hx=>by simp only[Op.operands,wt];exact⟨x,hx,rfl⟩)
  simp only[opA,h1]
 |buildSlice t n ps=>
  have h1:qau ts' ps.toList=qau ts ps.toList:=qgq hc (fun x hx=>by simp only[Op.operands,wt];exact⟨x,hx,rfl⟩)
  simp only[opA,h1]
 |call c=>
  obtain⟨callee,args,ats⟩:=c
  have h1:qao ts' args.toList=qao ts args.toList:=qfo hc (fun x hx=>by simp[Op.operands,Call.operands]at hx ⊢;exact .inr hx)
  cases callee with
  |value f=>
   have h2:qab f ts'=qab f ts:=qad hc (by simp[Op.operands,Call.operands])
   simp only[opA,h1,h2]
  |invoke r m=>simp only[opA]
  |builtin b=>simp only[opA,h1]
 |slice t x lo hi mx=>
  have h1:qab x ts'=qab x ts:=qad hc (by simp[Op.operands])
  have h2:optA ts' lo=optA ts lo:=qij hc (fun y hy=>by subst hy;simp[Op.operands])
  have h3:optA ts' hi=optA ts hi:=qij hc (fun y hy=>by subst hy;simp[Op.operands])
  have h4:optA ts' mx=optA ts mx:=qij hc (fun y hy=>by subst hy;simp[Op.operands])
  simp only[opA,h1,h2,h3,h4]
 |pick c a b=>
  have h1:qab c ts'=qab c ts:=qad hc (by simp[Op.operands])
  have h2:qab a ts'=qab a ts:=qad hc (by simp[Op.operands])
  have h3:qab b ts'=qab b ts:=qad hc (by simp[Op.operands])
  simp only[opA,h1,h2,h3]
 |store t a v=>
  have h1:qab a ts'=qab a ts:=qad hc (by simp[Op.operands])
  have h2:qab v ts'=qab v ts:=qad hc (by simp[Op.operands])
  simp only[opA,h1,h2]
 |binOp op t x y t2=>
  have h1:qab x ts'=qab x ts:=qad hc (by simp[Op.operands])
  have h2:qab y ts'=qab y ts:=qad hc (by simp[Op.operands])
  simp only[opA,h1,h2]
 |indexAddr t x i=>
  have h1:qab x ts'=qab x ts:=qad hc (by simp[Op.operands])
  have h2:qab i ts'=qab i ts:=qad hc (by simp[Op.operands])
  simp only[opA,h1,h2]
 |index t x i=>
  have h1:qab x ts'=qab x ts:=qad hc (by simp[Op.operands])
  have h2:qab i ts'=qab i ts:=qad hc (by simp[Op.operands])
  simp only[opA,h1,h2]
 |insert t m k x=>
  have h1:qab m ts'=qab m ts:=qad hc (by simp[Op.operands])
  have h2:qab k ts'=qab k ts:=qad hc (by simp[Op.operands])
  have h3:qab x ts'=qab x ts:=qad hc (by simp[Op.operands])
  simp only[opA,h1,h2,h3]
 |mapUpdate t m k x=>
  have h1:qab m ts'=qab m ts:=qad hc (by simp[Op.operands])
  have h2:qab k ts'=qab k ts:=qad hc (by simp[Op.operands])
  have h3:qab x ts'=qab x ts:=qad hc (by simp[Op.operands])
  simp only[opA,h1,h2,h3]
 |lookup t m k ok=>
  have h1:qab m ts'=qab m ts:=qad hc (by simp[Op.operands])
  have h2:qab k ts'=qab k ts:=qad hc (by simp[Op.operands])
  simp only[opA,h1,h2]
 |makeSlice t m k=>
  have h1:qab m ts'=qab m ts:=qad hc (by simp[Op.operands])
  have h2:qab k ts'=qab k ts:=qad hc (by simp[Op.operands])
  simp only[opA,h1,h2]
 |makeMap t r=>cases r<;>rfl
 |move x=>simp only[opA,qad (x:=x) hc (by simp[Op.operands])]
 |assign x=>simp only[opA,qad (x:=x) hc (by simp[Op.operands])]
 |box t x=>simp only[opA,qad (x:=x) hc (by simp[Op.operands])]
 |load t x=>simp only[opA,qad (x:=x) hc (by simp[Op.operands])]
 |nilCheck x=>simp only[opA,qad (x:=x) hc (by simp[Op.operands])]
 |unOp op t x=>simp only[opA,qad (x:=x) hc (by simp[Op.operands])]
 |convert s d x=>simp only[opA,qad (x:=x) hc (by simp[Op.operands])]
 |makeInterface t x=>simp only[opA,qad (x:=x) hc (by simp[Op.operands])]
 |fieldAddr s x f=>simp only[opA,qad (x:=x) hc (by simp[Op.operands])]
 |field t x f=>simp only[opA,qad (x:=x) hc (by simp[Op.operands])]
 |typeAssert x a b c=>simp only[opA,qad (x:=x) hc (by simp[Op.operands])]
 |extract x i=>simp only[opA,qad (x:=x) hc (by simp[Op.operands])]
 |panic x=>simp only[opA,qad (x:=x) hc (by simp[Op.operands])]
 |_=>simp only[opA]
theorem qcv {o:Oper} {ts:List AVal} {h:qaa} {r:OR} (hc:cls o=0) (e:opA P cmp call o ts h=some r):(∀h',opA P cmp call o ts h'=some r)∧∃v,r= .val v .same:=by
 have V:∀{x:Option AVal} {r:OR},(match x with|some a=>some (OR.val a .same)|none=>none)=some r→∃v,r= .val v .same:=by
  intro x r hx
  cases x with
  |none=>cases hx
  |some a=>cases hx;exact⟨a,rfl⟩
 obtain⟨dst,op,type,pos,after,guard⟩:=o
 cases op with
 |call c=>
  obtain⟨callee,args,ats⟩:=c
  cases callee with
  |builtin b=>
   cases b<;>(try (simp only[cls]at hc;first|(cases hc;done)|(split at hc<;>cases hc;done)))<;>
   ·simp only[opA]at e ⊢
    refine⟨fun h'=> ?_,?_⟩
    ·rw[←e]
    ·(repeat' split at e)<;>first|(cases e;exact⟨_,rfl⟩)|(cases e;done)|exact V e
  |value f=>simp[cls]at hc
  |invoke r m=>simp[opA]at e
 |makeFunc fn first cap=>
  cases fn<;>simp only[opA]at e ⊢ <;>first
   |(cases e;done)
   |(refine⟨fun h'=>by rw[←e],?_⟩;(repeat' split at e)<;>first|(cases e;exact⟨_,rfl⟩)|(cases e;done))
 |alloc=>simp[cls]at hc
 |box=>simp[cls]at hc
 |load=>simp[cls]at hc
 |store=>simp[cls]at hc
 |panic=>simp[cls]at hc
 |makeSlice=>simp[cls]at hc
 |makeMap=>simp[cls]at hc
 |lookup=>simp[cls]at hc
 |mapUpdate=>simp[cls]at hc
 |insert=>simp[cls]at hc
 |_=>
  simp only[opA]at e ⊢ <;>first
   |(cases e;done)
   |(refine⟨fun h'=>by rw[←e],?_⟩;(repeat' split at e)<;>first|(cases e;exact⟨_,rfl⟩)|(cases e;done)|exact V e)
end Go.Ab
namespace Go.Ab
variable {P:Program} {cmp:List TypeId} {call:Call}
theorem qc2 {ts:List AVal} {dst:Option Tmp} {v:AVal} {t:Tmp} (h:∀d,dst=some d→d≠t):(setT ts dst v)[t]? =ts[t]? :=by
 cases dst with
 |none=>rfl
 |some d=>exact we (h d rfl)
theorem qjo {ts:List AVal} {x y:Option Tmp} {u v:AVal} (h:∀d,x=some d→y≠some d):setT (setT ts x u) y v=setT (setT ts y v) x u:=by
 cases x with
 |none=>rfl
 |some d=>cases y with
  |none=>rfl
  |some d'=>
   have:d≠d':=fun e=>h d rfl (by rw[e])
   exact List.set_comm _ _ this
theorem qa0 {ops:List Oper} {o:Oper} {ts ts':List AVal} (h:∀t∈qb4 ops o,ts'[t]? =ts[t]?):qap ops o ts'=qap ops o ts:=by
 unfold qap
 split
 ·rfl
 ·rename_i j want hg
  split
  ·rename_i oj hj
   split
   ·rename_i d hd
    rw[h d (by simp[qb4,hg,hj,hd])]
   ·rfl
  ·rfl
theorem qjp {ops:List Oper} {x y:Oper} (h:qf3 ops x y=true):
 (∀d,x.dst=some d→∀t∈qb4 ops y,d≠t)∧(∀d,y.dst=some d→∀t∈qb4 ops x,d≠t)∧(∀d,x.dst=some d→y.dst≠some d):=by
 unfold qf3 at h
 simp only[wa]at h
 refine⟨fun d hd t ht e=> ?_,fun d hd t ht e=> ?_,fun d hd e=> ?_⟩
 ·have:=h.1;simp only[hd,wa,wd]at this
  subst e
  have h2:=this.1
  rw[wc]at h2
  simp[ht]at h2
 ·have:=h.2;simp only[hd,wd]at this
  subst e
  rw[wc]at this
  simp[ht]at this
 ·have:=h.1;simp only[hd,wa,wd]at this
  rw[e]at this;simp at this
theorem qcg {o:Oper} {ts:List AVal} {h:qaa} {r:OR} (hc:cls o=1) (e:opA P cmp call o ts h=some r):(∃v,r= .val v .same)∧∃t x,o.op= .load t x∧
 ∀h':qaa,(∀b off cs,qab x ts=some (.ptr b off)→h[b]? =some (.box cs)→h'[b]? =some (.box cs))→(∀b off n,qab x ts≠some (.mptr b off n))→opA P cmp call o ts h'=some r:=by
 obtain⟨dst,op,type,pos,after,guard⟩:=o
 cases op with
 |call c=>
  obtain⟨callee,args,ats⟩:=c
  cases callee with
  |builtin b=>cases b<;>(simp only[cls]at hc;first|(cases hc;done)|(split at hc<;>cases hc;done))
  |value f=>simp[cls]at hc
  |invoke r m=>simp[cls]at hc
 |load t x=>
  simp only[opA]at e ⊢
  split at e
  ·rename_i p hp
   split at e
   ·rename_i u hu
    cases e
    refine⟨⟨u,rfl⟩,t,x,rfl,fun h' hh hnm=> ?_⟩
    have:qck P h' t p=some u:=by
     unfold qck at hu ⊢
     cases p<;>simp only at hu ⊢ <;>first|exact hu|skip
     ·rename_i b off
      split at hu
      ·rename_i cs hb;rw[hh b off cs hp hb];exact hu
      ·cases hu
     ·exact absurd hp (hnm _ _ _)
    simp only[this]
   ·cases e
  ·cases e
 |_=>simp[cls]at hc
theorem qd3 {o:Oper} {ts:List AVal} {h:qaa} {v:AVal} {f:Eff} (hc:cls o=3) (e:opA P cmp call o ts h=some (.val v f)):
 ∃t a x b X,o.op= .store t a x∧((∃off,qab a ts=some (.ptr b off)∧∃cs,h[b]? =some (.box cs))∨(∃off n,qab a ts=some (.mptr b off n)∧∃p cs l e,h[b]? =some (.arr p cs l e)))∧v= .undef∧f= .heap (h.set b X) [b]∧
  (∃x0,h[b]? =some x0∧X.isR=x0.isR∧((∃cs,x0= .box cs)→∃cs,X= .box cs))∧
  ∀h':qaa,h'[b]? =h[b]? →opA P cmp call o ts h'=some (.val .undef (.heap (h'.set b X) [b])):=by
 obtain⟨dst,op,type,pos,after,guard⟩:=o
 cases op with
 |call c=>
  obtain⟨callee,args,ats⟩:=c
  cases callee with
  |builtin b=>cases b<;>(simp only[cls]at hc;first|(cases hc;done)|(split at hc<;>cases hc;done))
  |value f=>simp[cls]at hc
  |invoke r m=>simp[cls]at hc
 |store t a x=>
  simp only[opA]at e ⊢
  split at e
  ·rename_i p u hp hu
   split at e
   ·rename_i h1 b1 hst
    cases e
    unfold qbv at hst
    split at hst
    ·rename_i b off
     split at hst
     ·rename_i cs n hb hn
      split at hst
      ·rename_i hcond
       cases hset:qaj cs off u.cells with
       |none=>rw[hset]at hst;cases hst
       |some cs'=>
        rw[hset]at hst
        simp only[wm,Option.some.injEq,Prod.mk.injEq]at hst
        obtain⟨rfl,rfl⟩:=hst
        refine⟨t,a,x,_,.box cs',rfl,.inl ⟨off,hp,cs,hb⟩,rfl,rfl,⟨_,hb,rfl,fun _=>⟨_,rfl⟩⟩,fun h' hh=> ?_⟩
        have:qbv P h' t (.ptr b off) u=some (h'.set b (.box cs'),b):=by
         unfold qbv
         simp only[hh,hb,hn]
         rw[if_pos hcond,hset];rfl
        simp only[hp,hu,this]
      ·cases hst
     ·cases hst
    ·rename_i b off k
     split at hst
     ·rename_i p cs l e0 n hb hn
      split at hst
      ·rename_i hkl
       split at hst
       ·rename_i hcond
        cases hset:qaj cs (off-p) u.cells with
        |none=>rw[hset]at hst;cases hst
        |some cs'=>
         rw[hset]at hst
         simp only[wm,Option.some.injEq,Prod.mk.injEq]at hst
         obtain⟨rfl,rfl⟩:=hst
         refine⟨t,a,x,_,.arr p cs' l e0,rfl,.inr ⟨off,k,hp,p,cs,l,e0,hb⟩,rfl,rfl,⟨_,hb,rfl,fun⟨_,h⟩=>by cases h⟩,fun h' hh=> ?_⟩
         have:qbv P h' t (.mptr b off k) u=some (h'.set b (.arr p cs' l e0),b):=by
          unfold qbv
          simp only[hh,hb,hn]
          rw[if_pos hkl,if_pos hcond,hset];rfl
         simp only[hp,hu,this]
       ·cases hst
      ·cases hst
     ·cases hst
    ·cases hst
   ·cases e
  ·cases e
 |panic x=>
  simp only[opA]at e
  split at e<;>cases e
 |_=>simp[cls]at hc
theorem ql0 {bb:Bool} {h:qaa} {t:TypeId} {s x r:AVal} {f:Eff} (e:qbo P bb h t s x=some (r,f)):
 f= .same∨(∃y,f= .heap (h++[y]) []∧y.isR=false)∨∃b x0 y,h[b]? =some x0∧x0.isR=false∧y.isR=false∧f= .heap (h.set b y) [b]:=by
 have hA:qa5 P h t s x=some (r,f)→f= .same∨(∃y,f= .heap (h++[y]) []∧y.isR=false)∨∃b x0 y,h[b]? =some x0∧x0.isR=false∧y.isR=false∧f= .heap (h.set b y) [b]:=by
  intro e
  unfold qa5 at e
  (repeat' split at e)<;>first
   |(cases e;done)
   |(cases e;exact .inl rfl)
   |(cases e;exact .inr (.inl ⟨_,rfl,rfl⟩))
   |(rename_i hb _;cases e;exact .inr (.inr ⟨_,_,_,hb,rfl,rfl,rfl⟩))
 have hM:qco P h t s x=some (r,f)→f= .same∨(∃y,f= .heap (h++[y]) []∧y.isR=false)∨∃b x0 y,h[b]? =some x0∧x0.isR=false∧y.isR=false∧f= .heap (h.set b y) [b]:=by
  intro e
  unfold qco qhs at e
  (repeat' split at e)<;>first
   |(cases e;done)
   |(cases e;exact .inl rfl)
   |(cases e;exact .inr (.inl ⟨_,rfl,rfl⟩))
   |(rename_i hb _;cases e;exact .inr (.inr ⟨_,_,_,hb,rfl,rfl,rfl⟩))
   |(rename_i hb _ _;cases e;exact .inr (.inr ⟨_,_,_,hb,rfl,rfl,rfl⟩))
   |(rename_i hb _ _ _ _ _ _;cases e;exact .inr (.inr ⟨_,_,_,hb,rfl,rfl,rfl⟩))
 unfold qbo at e
 split at e
 ·exact hM e
 ·exact hA e
theorem qjq {o:Oper} {ts:List AVal} {h:qaa} {v:AVal} {f:Eff} (hc:cls o=2) (e:opA P cmp call o ts h=some (.val v f)):
 h.length≤(f.of h).length∧∀b cs,b<h.length→((f.of h)[b]? =some (.box cs)↔h[b]? =some (.box cs)):=by
 have add:∀x:Blk,h.length≤(h++[x]).length∧∀b cs,b<h.length→((h++[x])[b]? =some (.box cs)↔h[b]? =some (.box cs)):=by
  intro x
  exact⟨by simp,fun b cs hb=>by rw[wk hb]⟩
 have put:∀(b:Nat) (x0 y:Blk),h[b]? =some x0→x0.isR=false→y.isR=false→
  h.length≤(h.set b y).length∧∀c cs,c<h.length→((h.set b y)[c]? =some (.box cs)↔h[c]? =some (.box cs)):=by
  intro b x0 y hb h0 h1
  refine⟨by simp,fun c cs hc'=> ?_⟩
  by_cases he:c=b
  ·subst he
   rw[List.getElem?_set_self hc',hb]
   constructor
   ·intro e;cases e;cases h1
   ·intro e;cases e;cases h0
  ·rw[we (fun h=>he h.symm)]
 obtain⟨dst,op,type,pos,after,guard⟩:=o
 cases op with
 |call c=>
  obtain⟨callee,args,ats⟩:=c
  cases callee with
  |builtin b=>
   cases b<;>(try (simp only[cls]at hc;first|(cases hc;done)|(split at hc<;>cases hc;done)))
   simp only[opA]at e
   split at e
   ·cases e
   ·rename_i x y t has hat
    split at e
    ·split at e
     ·rename_i a f' hap
      cases e
      rcases ql0 hap with rfl|⟨y,rfl,_⟩|⟨b,x0,y,hb,h0,h1,rfl⟩
      ·exact⟨wl _,fun _ _ _=>Iff.rfl⟩
      ·exact add _
      ·exact put _ _ _ hb h0 h1
     ·cases e
    ·rename_i hne
     exfalso
     simp only[cls]at hc
     rw[hat,if_neg hne]at hc
     cases hc
   ·cases e
  |value f=>simp[cls]at hc
  |invoke r m=>simp[cls]at hc
 |alloc t=>
  simp only[opA]at e
  split at e
  ·cases e;exact add _
  ·cases e
 |box t x=>
  simp only[opA]at e
  split at e
  ·cases e;exact add _
  ·cases e
 |_=>simp[cls]at hc
theorem KeepH.app (h:qaa) (x:List Blk) (d:List Nat):KeepH h (h++x) d:=⟨by simp,fun b hb _=>wk hb⟩
theorem KeepH.set (h:qaa) (b:Nat) (x:Blk):KeepH h (h.set b x) [b]:=⟨by simp,fun c _ hc=>we (fun e=>hc (by simp[e]))⟩
theorem KeepH.trans {h1 h2 h3:qaa} {d1 d2 d:List Nat} (a:KeepH h1 h2 d1) (b:KeepH h2 h3 d2) (s1:∀x∈d1,x∈d) (s2:∀x∈d2,x∈d):KeepH h1 h3 d:=
 ⟨Nat.le_trans a.1 b.1,fun c hc hd=>by
  rw[b.2 c (Nat.lt_of_lt_of_le hc a.1) (fun hm=>hd (s2 c hm)),a.2 c hc (fun hm=>hd (s1 c hm))]⟩
def KeepR (h:qaa):OR→Prop
 | .val _ f=>qce h f
 | .pan _ f=>qce h f
theorem qem (hc:qan call) {o:Oper} {ts:List AVal} {h:qaa} {r:OR} (e:opA P cmp call o ts h=some r):KeepR h r:=by
 have same:∀{v:AVal},KeepR h (.val v .same):=KeepH.refl _ _
 by_cases h0:cls o=0
 ·obtain⟨_,v,rfl⟩:=qcv h0 e
  exact same
 obtain⟨dst,op,type,pos,after,guard⟩:=o
 cases op with
 |call c=>
  obtain⟨callee,args,ats⟩:=c
  cases callee with
  |builtin b=>
   cases b<;>(try (exact absurd rfl h0))
   simp only[opA]at e
   split at e
   ·cases e
   ·split at e
    ·split at e
     ·rename_i a f' hap
      cases e
      rcases ql0 hap with rfl|⟨y,rfl,_⟩|⟨b,x0,y,hb,h0,h1,rfl⟩
      ·exact same
      ·exact KeepH.app _ _ _
      ·exact KeepH.set _ _ _
     ·cases e
    ·split at e
     ·rename_i a f' _ hap _
      cases e
      unfold qht at hap
      (repeat' split at hap)<;>first
       |(cases hap;done)
       |(cases hap;exact KeepH.app _ _ _)
     ·cases e
   ·cases e
  |value f=>
   simp only[opA]at e
   split at e
   ·split at e
    ·rename_i r' hr'
     cases e
     have:=qsc hc hr'
     cases r'<;>exact this
    ·cases e
   ·cases e
  |invoke r m=>simp[opA]at e
 |alloc t=>
  simp only[opA]at e
  split at e
  ·cases e;exact KeepH.app _ _ _
  ·cases e
 |box t x=>
  simp only[opA]at e
  split at e
  ·cases e;exact KeepH.app _ _ _
  ·cases e
 |load t x=>
  obtain⟨⟨v,rfl⟩,_⟩:=qcg rfl e
  exact same
 |store t x y=>
  simp only[opA]at e
  split at e
  ·split at e
   ·rename_i h' b hs
    cases e
    unfold qbv at hs
    (repeat' split at hs)<;>first
     |(cases hs;done)
     |skip
    all_goals
     rw[Option.map_eq_some_iff]at hs
     obtain⟨cs,_,hs⟩:=hs
     cases hs
     exact KeepH.set _ _ _
   ·cases e
  ·cases e
 |makeSlice t x y=>
  simp only[opA]at e
  split at e
  ·split at e
   ·rename_i u f hm
    cases e
    unfold qdb at hm
    (repeat' split at hm)<;>first
     |(cases hm;done)
     |(cases hm;exact same)
     |(cases hm;exact KeepH.app _ _ _)
   ·cases e
  ·cases e
 |makeMap t r=>
  cases r with
  |some _=>simp[opA]at e
  |none=>simp only[opA]at e;cases e;exact KeepH.app _ _ _
 |lookup t m k ok=>
  simp only[opA]at e
  split at e
  ·split at e
   ·cases e;exact same
   ·cases e
  ·cases e
 |mapUpdate t m k x=>
  simp only[opA]at e
  split at e
  ·split at e
   ·rename_i h' b hm
    cases e
    unfold qdn at hm
    (repeat' split at hm)<;>first
     |(cases hm;done)
     |(cases hm;exact KeepH.set _ _ _)
   ·cases e
  ·cases e
 |insert t m k x=>
  simp only[opA]at e
  split at e
  ·split at e
   ·rename_i h' b hm
    cases e
    unfold qdn at hm
    (repeat' split at hm)<;>first
     |(cases hm;done)
     |(cases hm;exact KeepH.set _ _ _)
   ·cases e
  ·cases e
 |panic x=>
  simp only[opA]at e
  split at e
  ·cases e;exact KeepH.refl _ _
  ·cases e
 |_=>exact absurd rfl h0
theorem opA_new {o:Oper} {ts:List AVal} {h:qaa} {v:AVal} {f:Eff} (hn:isNew o=true) (e:opA P cmp call o ts h=some (.val v f)):∃b,f.of h=h++[b]:=by
 obtain⟨dst,op,ty,pos,after,gd⟩:=o
 cases op with
 |alloc t=>
  simp only[opA]at e
  split at e
  ·cases e;exact⟨_,rfl⟩
  ·cases e
 |box t x=>
  simp only[opA]at e
  split at e
  ·cases e;exact⟨_,rfl⟩
  ·cases e
 |_=>cases hn
theorem qq9 (hkeep:qan call) {o:Oper} {ts:List AVal} {h t:qaa} {v:AVal} (hc:cls o=4) (e:opA P cmp call o ts h=some (.val v .same)):opA P cmp call o ts (h++t)=some (.val v .same):=by
 obtain⟨dst,op,ty,pos,after,gd⟩:=o
 cases op with
 |call r=>
  obtain⟨callee,args,ats⟩:=r
  cases callee with
  |value f=>
   simp only[opA]at e ⊢
   split at e
   ·split at e
    ·rename_i r hr
     cases r with
     |ret v' e'=>
      simp only[outOf,Option.some.injEq,OR.val.injEq]at e
      obtain⟨rfl,rfl⟩:=e
      rw[callA_app hkeep hr];rfl
     |pan v' e'=>simp[outOf]at e
    ·cases e
   ·cases e
  |builtin b=>cases b<;>(simp only[cls]at hc;first|(cases hc;done)|(split at hc<;>cases hc;done))
  |invoke x m=>simp[opA]at e
 |_=>simp[cls]at hc
theorem qbe {lim:Nat} {ops:List Oper} {j:Nat} {s s':St} (e:qay P cmp call lim ops j s=some s'):∃o,ops[j]? =some o∧
 (
  (qap ops o s.tmps=some true∧∃v f,opA P cmp call o s.tmps s.heap=some (.val v f)∧askD lim ops j o s f=true∧s'=⟨setT s.tmps o.dst v,f.of s.heap,f.dirt++s.dirty⟩)∨
  (qap ops o s.tmps=some false∧s'=⟨setT s.tmps o.dst .undef,s.heap,s.dirty⟩)):=by
 unfold qay at e
 split at e
 ·cases e
 ·rename_i o ho
  refine⟨o,ho,?_⟩
  split at e
  ·rename_i hw
   split at e
   ·rename_i v f hv
    split at e
    ·rename_i ha;cases e;exact .inl ⟨hw,v,f,hv,ha,rfl⟩
    ·cases e
   ·cases e
  ·rename_i hw;cases e;exact .inr ⟨hw,rfl⟩
  ·cases e
theorem qgr {af:List Edge} {ts ts':List AVal} {d:List Nat}:∀(q j:Nat) (l:List Oper),(∀i x,i<j→l[i]? =some x→cls x=1→∀t∈qbw x.op.operands.toList,ts'[t]? =ts[t]?)→qaf af ts d q j l=true→qaf af ts' d q j l=true
 |q,0,l,_,_=>by unfold qaf;rfl
 |q,j+1,[],_,_=>by unfold qaf;rfl
 |q,j+1,o::r,ht,h=>by
  simp only[qaf,wa]at h ⊢
  refine⟨?_,qgr (q+1) j r (fun i x hi hx=>ht (i+1) x (by omega) (by simpa using hx)) h.2⟩
  have h1:=h.1
  split at h1
  ·rename_i t a ho
   have hc:cls o=1:=by unfold cls;rw[ho]
   have:qab a ts'=qab a ts:=qad (ht 0 o (by omega) rfl hc) (by rw[ho];simp[Op.operands])
   rw[this];exact h1
  ·rfl
theorem qse {ops:List Oper} {j:Nat} {o:Oper} {ts ts':List AVal} (ho:∀t∈qbw o.op.operands.toList,ts'[t]? =ts[t]?) (hq:∀i x,i<j→ops[i]? =some x→cls x=3→∀t∈qbw x.op.operands.toList,ts'[t]? =ts[t]?)
 (h:stOk ops j o ts=true):stOk ops j o ts'=true:=by
 unfold stOk at h ⊢
 refine wg.2 (fun i hi=> ?_)
 have h1:=wg.1 h i hi
 have hij:i<j:=by simpa using hi
 cases hx:ops[i]? with
 |none=>rfl
 |some x=>
  rw[hx]at h1
  simp only[wo]at h1 ⊢
  unfold stAt at h1 ⊢
  split at h1
  ·rename_i t a v t' a' v' hxo hoo
   rw[wb]at h1 ⊢
   have hc:cls x=3:=by unfold cls;rw[hxo]
   have e1:qab a ts'=qab a ts:=qad (hq i x hij hx hc) (by rw[hxo];simp[Op.operands])
   have e2:qab a' ts'=qab a' ts:=qad ho (by rw[hoo];simp[Op.operands])
   rw[e1,e2];exact h1
  ·rfl
theorem qik {lim:Nat} {ops:List Oper} {j:Nat} {o:Oper} {s s':St} {f:Eff} (ht:∀t∈qbw o.op.operands.toList,s'.tmps[t]? =s.tmps[t]?) (hl:cls o=2→lim≤s.heap.length→lim≤s'.heap.length)
 (hq:∀i x,i<j→ops[i]? =some x→(cls x=1∨cls x=3)→∀t∈qbw x.op.operands.toList,s'.tmps[t]? =s.tmps[t]?)
 (h:askD lim ops j o s f=true):askD lim ops j o s' f=true:=by
 unfold askD at h ⊢
 split at h
 ·rename_i hc
  split at h
  ·rename_i t x ho
   have:qab x s'.tmps=qab x s.tmps:=qad ht (by rw[ho];simp[Op.operands])
   rw[this];exact h
  ·cases h
 ·rename_i hc
  simp only[decide_eq_true_eq]at h ⊢
  exact hl hc h
 ·rename_i hc
  simp only[wb,wa]at h ⊢
  exact⟨h.1.imp id (qgr 0 j ops (fun i x hi hx hc=>hq i x hi hx (.inl hc))),h.2.imp id (qse ht (fun i x hi hx hc=>hq i x hi hx (.inr hc)))⟩
 ·rename_i hc
  simp only[wb,wa]at h ⊢
  exact h.imp id (fun h=>⟨h.1,qgr 0 j ops (fun i x hi hx hc=>hq i x hi hx (.inl hc)) h.2⟩)
 ·exact h
 ·rfl
theorem qc3 {lim:Nat} {ops:List Oper} {j:Nat} {o:Oper} {s:St} {f:Eff} (h:cls o=0):askD lim ops j o s f=true:=by
 unfold askD;rw[h]
 rfl
theorem qgh {ops:List Oper} (h:ssaL ops=true) {i k:Nat} {x y:Oper} (hik:i≤k) (hx:ops[i]? =some x) (hy:ops[k]? =some y) (hc:cls x=1∨cls x=3):∀d,y.dst=some d→d∉qbw x.op.operands.toList:=by
 intro d hd hm
 have hk:k<ops.length:=(wh.1 hy).1
 unfold ssaL at h
 have h1:=wg.1 h k (by simpa using hk)
 have h2:=wg.1 h1 i (by simp;omega)
 have hn:(cls x !=1 && cls x !=3)=false:=by rcases hc with hc|hc<;>rw[hc]<;>rfl
 simp only[hx,hy,hn,hd,wb,Bool.false_eq_true,false_or,wd,wc,decide_eq_false_iff_not]at h2
 exact h2 hm
def qeh (P:Program) (cmp:List TypeId) (call:Call) (ops:List Oper) (j:Nat) (s s':St) (f:Eff):Prop:=∃o,ops[j]? =some o∧
 (
  (qap ops o s.tmps=some true∧∃v,opA P cmp call o s.tmps s.heap=some (.val v f)∧s'=⟨setT s.tmps o.dst v,f.of s.heap,f.dirt++s.dirty⟩)∨
  (qap ops o s.tmps=some false∧f= .same∧s'=⟨setT s.tmps o.dst .undef,s.heap,s.dirty⟩))
structure qha (lim:Nat) (ops:List Oper) (j:Nat) (y:Oper) (pre:List Nat) (s:St) (f:Eff):Prop where
 c4:cls y=4→f.isSame=true∨qdt ops j=true∨qex ops j=true
 ap:(cls y=3∧qel y=true)∨(cls y=4∧f.isSame=false∧qdt ops j=false)→∀q xq ty a b off,q<j→ops[q]? =some xq→xq.op= .load ty a→qbt q y.after.toList=false→
  (∀k∈pre,∀yk,ops[k]? =some yk→∀d,yk.dst=some d→d∉qbw xq.op.operands.toList)→qab a s.tmps=some (.ptr b off)→b∉f.dirt
 ld:qap ops y s.tmps=some true→∀ty a b off,y.op= .load ty a→qab a s.tmps=some (.ptr b off)→b<lim
 lm:qap ops y s.tmps=some true→∀ty a b off n,y.op= .load ty a→qab a s.tmps≠some (.mptr b off n)
 c5:qap ops y s.tmps=some true→cls y=5→qdt ops j=true
 st:isSt y=true→qel y=true→∀q xq tq aq vq,q<j→ops[q]? =some xq→xq.op= .store tq aq vq→q∉(ancs [] ops).getD j []→(∀k∈pre,∀yk,ops[k]? =some yk→∀d,yk.dst=some d→d∉qbw xq.op.operands.toList)→
  ∀ty a v,y.op= .store ty a v→isMp (qab aq s.tmps)=true∧isPt (qab a s.tmps)=true
theorem qol {af:List Edge} {ts:List AVal} {d:List Nat}:∀(q j:Nat) (l:List Oper),qaf af ts d q j l=true→∀i x ty a b off,i<j→l[i]? =some x→x.op= .load ty a→qbt (q+i) af=false→qab a ts=some (.ptr b off)→b∉d
 |q,0,l,_,i,x,ty,a,b,off,hi,_,_,_,_=>by omega
 |q,j+1,[],_,i,x,ty,a,b,off,hi,hx,_,_,_=>by simp at hx
 |q,j+1,o::r,h,0,x,ty,a,b,off,hi,hx,ho,hp,hc=>by
  simp only[qaf,wa]at h
  simp at hx;subst hx
  have h1:=h.1
  rw[ho]at h1
  simp only[Nat.add_zero]at hp
  simp only[hp,wj,hc,qfu,wd,wc,decide_eq_false_iff_not]at h1
  exact h1
 |q,j+1,o::r,h,i+1,x,ty,a,b,off,hi,hx,ho,hp,hc=>by
  simp only[qaf,wa]at h
  exact qol (q+1) j r h.2 i x ty a b off (by omega) (by simpa using hx) ho (by rw[←hp];congr 1;omega) hc
theorem asked0 {lim:Nat} {ops:List Oper} {j:Nat} {s s':St} (e:qay P cmp call lim ops j s=some s'):∃y f,ops[j]? =some y∧qeh P cmp call ops j s s' f∧qha lim ops j y [] s f:=by
 obtain⟨o,ho,hc⟩:=qbe e
 rcases hc with⟨wx,v,f,ov,av,rfl⟩|⟨wx,rfl⟩
 ·refine⟨o,f,ho,⟨o,ho,.inl ⟨wx,v,ov,rfl⟩⟩,⟨fun hc=> ?_,fun hc q xq ty a b off hq hxq hop hp _ hca=> ?_,fun _ ty a b off hop hca=> ?_,fun _ ty a b off n hop hca=> ?_,fun _ hc=> ?_,fun hst hdp q xq tq aq vq hq hxq hop hn _ ty a v hyo=> ?_⟩⟩
  ·unfold askD at av
   rw[hc]at av
   simp only[wb,wa]at av
   rcases av with(h|h)|h
   ·exact .inl h
   ·exact .inr (.inl h)
   ·exact .inr (.inr h.1)
  ·have hap:qaf o.after.toList s.tmps f.dirt 0 j ops=true:=by
    unfold askD at av
    rcases hc with⟨hc,hd⟩|⟨hc,hd,hs⟩
    ·rw[hc]at av
     simp only[hd,wq,wj,wa]at av
     exact av.1
    ·rw[hc]at av
     simp only[hd,hs,wj,wa]at av
     exact av.2
   exact qol 0 j ops hap q xq ty a b off hq hxq hop (by rw[Nat.zero_add];exact hp) hca
  ·unfold askD at av
   have:cls o=1:=by unfold cls;rw[hop]
   rw[this,hop]at av
   simpa[hca]using av
  ·unfold askD at av
   have:cls o=1:=by unfold cls;rw[hop]
   rw[this,hop]at av
   simp[hca]at av
  ·unfold askD at av
   rw[hc]at av
   exact av
  ·unfold askD at av
   have hc3:cls o=3:=by unfold cls;rw[hyo]
   rw[hc3]at av
   simp only[hdp,wq,wj,wa]at av
   have h1:=av.2
   unfold stOk at h1
   have h2:=wg.1 h1 q (by simpa using hq)
   rw[hxq]at h2
   simp only[wo,stAt,hop,hyo,wb,wa,wc,decide_eq_true_eq]at h2
   exact h2.resolve_left hn
 ·exact⟨o,.same,ho,⟨o,ho,.inr ⟨wx,rfl,rfl⟩⟩,⟨fun _=> .inl rfl,fun hc q xq ty a b off hq hxq hop hp _ hca=>by simp[Eff.dirt],fun hw=>(by rw[wx]at hw;cases hw),fun hw=>(by rw[wx]at hw;cases hw),fun hw=>(by rw[wx]at hw;cases hw),fun hst=>by
   exfalso
   have hg:o.guard=none:=by
    unfold isSt at hst
    split at hst
    ·rename_i h1 h2 h3;exact h2
    ·cases hst
   unfold qap at wx
   rw[hg]at wx
   cases wx⟩⟩
theorem swap {lim:Nat} {ops:List Oper} {i j:Nat} {x y:Oper} {s s1 s2:St} {fy:Eff} {pre:List Nat} (hij:i<j) (hx:ops[i]? =some x) (hy:ops[j]? =some y) (hp:qjj ops x y=true) (hssa:ssaL ops=true) (hkeep:qan call)
 (hsx:cls y≠0→qdt ops i=false) (hsy:cls x≠0→qdt ops j=false) (hfx:cls y≠0→qex ops i=false) (hfy:cls x≠0→cls x≠1→qex ops j=false) (hpb:qbt i y.after.toList=false)
 (hpre:∀k∈pre,i<k) (e1:qay P cmp call lim ops i s=some s1) (e2:qeh P cmp call ops j s1 s2 fy) (ask:qha lim ops j y pre s1 fy):
 ∃s1',qeh P cmp call ops j s s1' fy∧qay P cmp call lim ops i s1'=some s2∧qha lim ops j y (i::pre) s fy:=by
 have hp0:=hp
 unfold qjj at hp
 simp only[wa,wb,beq_iff_eq]at hp
 obtain⟨hin,hcl⟩:=hp
 obtain⟨d1,d2,d3⟩:=qjp hin
 obtain⟨x',hx',c1⟩:=qbe e1
 rw[hx]at hx';cases hx'
 obtain⟨y',hy',c2⟩:=e2
 rw[hy]at hy';cases hy'
 have rx:∀{u:AVal} {ts:List AVal},∀t∈qb4 ops x,(setT ts y.dst u)[t]? =ts[t]? :=fun t ht=>qc2 fun d hd=>d2 d hd t ht
 have ry:∀{u:AVal} {ts:List AVal},∀t∈qb4 ops y,(setT ts x.dst u)[t]? =ts[t]? :=fun t ht=>qc2 fun d hd=>d1 d hd t ht
 have sub:∀o:Oper,∀t∈qbw o.op.operands.toList,t∈qb4 ops o:=fun o t ht=>by simp[qb4,ht]
 have comm:∀{ts:List AVal} {u v:AVal},setT (setT ts x.dst u) y.dst v=setT (setT ts y.dst v) x.dst u:=qjo d3
 have lq:∀{u:AVal} {ts:List AVal},∀q z,q<i→ops[q]? =some z→(cls z=1∨cls z=3)→∀t∈qbw z.op.operands.toList,(setT ts y.dst u)[t]? =ts[t]? :=fun {u ts} q z hq hz hcz t ht=>
  qc2 fun d hd e=>qgh hssa (show q≤j by omega) hz hy hcz d hd (by rw[e];exact ht)
 obtain⟨u1,hu1⟩:∃u,s1.tmps=setT s.tmps x.dst u:=by
  rcases c1 with⟨_,v,f,_,_,rfl⟩|⟨_,rfl⟩
  ·exact⟨v,rfl⟩
  ·exact⟨.undef,rfl⟩
 have askS:qha lim ops j y (i::pre) s fy:=by
  refine⟨ask.c4,fun hc q xq ty a b off hq hxq hop hpq hk hca=> ?_,fun hw ty a b off hop hca=> ?_,fun hw ty a b off n hop hca=> ?_,fun hw hc=>ask.c5 (by rw[hu1,qa0 ry];exact hw) hc,fun hst hdp q xq tq aq vq hq hxq hop hn hk ty a v hyo=> ?_⟩
  ·refine ask.ap hc q xq ty a b off hq hxq hop hpq (fun k hk'=>hk k (by simp[hk'])) ?_
   rw[hu1]
   have:qab a (setT s.tmps x.dst u1)=qab a s.tmps:=qad (fun t ht=>qc2 fun d hd e=>hk i (by simp) x hx d hd (by rw[e];exact ht)) (by rw[hop];simp[Op.operands])
   rw[this];exact hca
  ·refine ask.ld (by rw[hu1,qa0 ry];exact hw) ty a b off hop ?_
   rw[hu1]
   have:qab a (setT s.tmps x.dst u1)=qab a s.tmps:=qad (fun t ht=>ry t (sub y t ht)) (by rw[hop];simp[Op.operands])
   rw[this];exact hca
  ·refine ask.lm (by rw[hu1,qa0 ry];exact hw) ty a b off n hop ?_
   rw[hu1]
   have:qab a (setT s.tmps x.dst u1)=qab a s.tmps:=qad (fun t ht=>ry t (sub y t ht)) (by rw[hop];simp[Op.operands])
   rw[this];exact hca
  ·have h1:=ask.st hst hdp q xq tq aq vq hq hxq hop hn (fun k hk'=>hk k (by simp[hk'])) ty a v hyo
   rw[hu1]at h1
   have e1:qab aq (setT s.tmps x.dst u1)=qab aq s.tmps:=qad (fun t ht=>qc2 fun d hd e=>hk i (by simp) x hx d hd (by rw[e];exact ht)) (by rw[hop];simp[Op.operands])
   have e2:qab a (setT s.tmps x.dst u1)=qab a s.tmps:=qad (fun t ht=>ry t (sub y t ht)) (by rw[hyo];simp[Op.operands])
   rw[e1,e2]at h1
   exact h1
 rcases c1 with⟨wx,vx,fx,ox,ax,rfl⟩|⟨wx,rfl⟩
 ·rcases c2 with⟨wy,vy,oy,rfl⟩|⟨wy,rfl,rfl⟩
  ·-- both are wanted
   simp only at wy oy
   rw[qa0 ry]at wy
   rw[qet (fun t ht=>ry t (sub y t ht))]at oy
   have key:opA P cmp call y s.tmps s.heap=some (.val vy fy)∧opA P cmp call x s.tmps (fy.of s.heap)=some (.val vx fx)∧fx.of (fy.of s.heap)=fy.of (fx.of s.heap)∧
    fx.dirt++(fy.dirt++s.dirty)=fy.dirt++(fx.dirt++s.dirty)∧askD lim ops i x ⟨s.tmps,fy.of s.heap,s.dirty⟩ fx=true:=by
    have ax':(cls x=2→lim≤s.heap.length→lim≤(fy.of s.heap).length)→askD lim ops i x ⟨s.tmps,fy.of s.heap,s.dirty⟩ fx=true:=fun hl=>
     qik (s:=s) (fun t ht=>rfl) hl (fun _ _ _ _ _ _ _=>rfl) ax
    by_cases hx0:cls x=0
    ·obtain⟨h1,v,hv⟩:=qcv hx0 ox
     cases hv
     exact⟨oy,h1 _,rfl,rfl,qc3 hx0⟩
    by_cases hy0:cls y=0
    ·obtain⟨h1,v,hv⟩:=qcv hy0 oy
     cases hv
     exact⟨h1 _,ox,rfl,rfl,ax⟩
    have nm:∀t q,x.op= .load t q→∀b off n,qab q s.tmps≠some (.mptr b off n):=by
     intro t q hop b off n hq
     have hc1:cls x=1:=by unfold cls;rw[hop]
     have h9:=ax
     unfold askD at h9
     rw[hc1,hop]at h9
     simp[hq]at h9
    have same4:cls x=1∨cls x=4→fx= .same:=by
     intro hc
     rcases hc with hc|hc
     ·obtain⟨⟨v',hv'⟩,_⟩:=qcg hc ox
      cases hv';rfl
     ·unfold askD at ax
      rw[hc]at ax
      simp only[hsx hy0,hfx hy0,Bool.or_false,Bool.false_and]at ax
      cases fx with
      |same=>rfl
      |heap=>simp[Eff.isSame]at ax
    rcases hcl with(((((hc|hc)|⟨hc1,hc2⟩)|⟨hc1,hc2⟩)|⟨hc1,hc2⟩)|⟨hc1,hc2,hdp⟩)|⟨hc1,hnew⟩
    ·exact absurd hc hx0
    ·exact absurd hc hy0
    ·have hfxs:=same4 hc1
     subst hfxs
     rcases hc2 with hc2|hc2
     ·obtain⟨⟨v',hv'⟩,_⟩:=qcg hc2 oy
      cases hv'
      exact⟨oy,ox,rfl,rfl,ax⟩
     ·cases hfs:fy.isSame with
      |true=>
       have:fy= .same:=by cases fy with
        |same=>rfl
        |heap=>simp[Eff.isSame]at hfs
       subst this
       exact⟨oy,ox,rfl,rfl,ax⟩
      |false=>
       have hso:=hsy hx0
       have hfr:qex ops j=true:=by
        rcases ask.c4 hc2 with h|h|h
        ·rw[hfs]at h;cases h
        ·rw[hso]at h;cases h
        ·exact h
       have hx1:cls x=1:=by
        by_cases h:cls x=1
        ·exact h
        ·rw[hfy hx0 h]at hfr;cases hfr
       obtain⟨⟨v',hv'⟩,t,q,hop,hre⟩:=qcg hx1 ox
       have hkf:qce s.heap fy:=qem hkeep oy
       refine⟨oy,hre _ (fun b off cs hb hbox=> ?_) (nm t q hop),rfl,rfl,ax' (fun h2=>by rw[hx1]at h2;cases h2)⟩
       have hnb:b∉fy.dirt:=by
        refine ask.ap (.inr ⟨hc2,hfs,hso⟩) i x t q b off hij hx hop hpb (fun k hk yk hyk d hd=>qgh hssa (wu (hpre k hk)) hx hyk (.inl hx1) d hd) ?_
        have:qab q (setT s.tmps x.dst vx)=qab q s.tmps:=qad (fun t ht=>qc2 fun d hd e=>qgh hssa (wl i) hx hx (.inl hx1) d hd (by rw[e];exact ht)) (by rw[hop];simp[Op.operands])
        show qab q (setT s.tmps x.dst vx)=_
        rw[this];exact hb
       rw[hkf.2 b (wh.1 hbox).1 hnb];exact hbox
    ·-- x reads,y makes
     obtain⟨⟨v',hv'⟩,t,q,hop,hre⟩:=qcg hc1 ox
     cases hv'
     have hm:=qjq hc2 oy
     refine⟨oy,hre _ (fun b off cs hb hbox=>(hm.2 b cs (wh.1 hbox).1).2 hbox) (nm t q hop),rfl,rfl,?_⟩
     exact ax' (fun h2=>by rw[hc1]at h2;cases h2)
    ·-- x makes,y reads
     obtain⟨⟨v',hv'⟩,t,q,hop,hre⟩:=qcg hc2 oy
     cases hv'
     have hm:=qjq hc1 ox
     have hlim:lim≤s.heap.length:=by
      unfold askD at ax;rw[hc1]at ax;simpa using ax
     refine⟨hre _ (fun b off cs hb hbox=> ?_) (fun b off n=>askS.lm wy t q b off n hop),ox,rfl,rfl,ax⟩
     have hb':b<lim:=askS.ld wy t q b off hop hb
     exact(hm.2 b cs (by omega)).1 hbox
    ·-- x reads,y writes elsewhere
     obtain⟨⟨v',hv'⟩,t,q,hop,hre⟩:=qcg hc1 ox
     cases hv'
     obtain⟨t2,a2,x2,b2,X2,hop2,hp2,rfl,rfl,_,hre2⟩:=qd3 hc2 oy
     refine⟨oy,hre _ (fun b off cs hb hbox=> ?_) (nm t q hop),rfl,rfl,ax' (fun h2=>by rw[hc1]at h2;cases h2)⟩
     have hnb:b∉Eff.dirt (.heap (s.heap.set b2 X2) [b2]):=by
      refine ask.ap (.inl ⟨hc2,hdp⟩) i x t q b off hij hx hop hpb (fun k hk yk hyk d hd=>qgh hssa (wu (hpre k hk)) hx hyk (.inl hc1) d hd) ?_
      have:qab q (setT s.tmps x.dst vx)=qab q s.tmps:=qad (fun t ht=>qc2 fun d hd e=>qgh hssa (wl i) hx hx (.inl hc1) d hd (by rw[e];exact ht)) (by rw[hop];simp[Op.operands])
      show qab q (setT s.tmps x.dst vx)=_
      rw[this];exact hb
     have hne:b2≠b:=fun e=>hnb (by simp[Eff.dirt,e])
     show(s.heap.set b2 X2)[b]? =_
     rw[we hne];exact hbox
    ·-- x calls and changes nothing,y makes
     have hfxs:=same4 (.inr hc1)
     subst hfxs
     obtain⟨b,hb⟩:=opA_new hnew oy
     have hb:fy.of s.heap=s.heap++[b]:=hb
     refine⟨oy,?_,rfl,rfl,ax' (fun h2=>by rw[hc1]at h2;cases h2)⟩
     rw[hb]
     exact qq9 hkeep hc1 ox
   obtain⟨k1,k2,k3,k4,k6⟩:=key
   refine⟨⟨setT s.tmps y.dst vy,fy.of s.heap,fy.dirt++s.dirty⟩,⟨y,hy,.inl ⟨wy,vy,k1,rfl⟩⟩,?_,askS⟩
   unfold qay
   simp only[hx,qa0 rx,wx,qet (fun t ht=>rx t (sub x t ht)),k2]
   rw[if_pos (qik (s:=⟨s.tmps,fy.of s.heap,s.dirty⟩) (s':=⟨setT s.tmps y.dst vy,fy.of s.heap,fy.dirt++s.dirty⟩) (fun t ht=>rx t (sub x t ht)) (fun _ h=>h) lq k6)]
   rw[k3,k4,comm]
  ·simp only at wy
   rw[qa0 ry]at wy
   refine⟨⟨setT s.tmps y.dst .undef,s.heap,s.dirty⟩,⟨y,hy,.inr ⟨wy,rfl,rfl⟩⟩,?_,askS⟩
   unfold qay
   simp only[hx,qa0 rx,wx,qet (fun t ht=>rx t (sub x t ht)),ox]
   rw[if_pos (qik (s:=s) (s':=⟨setT s.tmps y.dst .undef,s.heap,s.dirty⟩) (fun t ht=>rx t (sub x t ht)) (fun _ h=>h) lq ax),comm]
 ·rcases c2 with⟨wy,vy,oy,rfl⟩|⟨wy,rfl,rfl⟩
  ·simp only at wy oy
   rw[qa0 ry]at wy
   rw[qet (fun t ht=>ry t (sub y t ht))]at oy
   refine⟨⟨setT s.tmps y.dst vy,fy.of s.heap,fy.dirt++s.dirty⟩,⟨y,hy,.inl ⟨wy,vy,oy,rfl⟩⟩,?_,askS⟩
   unfold qay
   simp only[hx,qa0 rx,wx,comm]
  ·simp only at wy
   rw[qa0 ry]at wy
   refine⟨⟨setT s.tmps y.dst .undef,s.heap,s.dirty⟩,⟨y,hy,.inr ⟨wy,rfl,rfl⟩⟩,?_,askS⟩
   unfold qay
   simp only[hx,qa0 rx,wx,comm]
end Go.Ab
