/- Regions whose order is open: any order gives what the order of the text gives. -/
import Derived.Test.YtlfollkhlephmaaGreatDoorAbOp9
import Derived.Orders
set_option linter.unusedSimpArgs false
set_option linter.unusedVariables false
set_option maxRecDepth 100000
set_option maxHeartbeats 4000000
open Bool renaming and_eq_true→wa,or_eq_true→wb,not_eq_true'→wd,not_true→wi,false_or→wk,false_eq_true→wm,or_false→ws
open List renaming contains_eq_mem→wc,all_eq_true→we,getElem?_set_ne→wg,getElem?_eq_some_iff→wh,getElem?_append_left→wl,mem_map→wt
open Array renaming getElem?_toList→wj
open Option renaming map_some→wo,all_some→wq
open Nat renaming le_refl→wu
namespace Go.Ab
variable {P:Program}
theorem qa1 {S:Sh} {ops:Array Oper} {o:Oper} {ts:List AVal} {a:Act} {b:Bool} (ht:VRl S ts a.tmps.toList) (e:qak ops.toList o ts=some b):
 Region.wanted o (yielded ops a.tmps)=b:=by
 unfold qak at e
 unfold Region.wanted
 split at e
 ·rename_i hg;cases e;simp[hg]
 ·rename_i j want hg
  simp only[hg]
  split at e
  ·rename_i oj hj
   rw[wj]at hj
   split at e
   ·rename_i d hd
    split at e
    ·rename_i c hc
     cases e
     obtain⟨v,hv,hr⟩:=ht.get hc
     rw[wj]at hv
     cases hr
     simp[yielded,hj,hd,hv]
    ·rename_i hc
     cases e
     obtain⟨v,hv,hr⟩:=ht.get hc
     rw[wj]at hv
     cases hr
     simp[yielded,hj,hd,hv]
    ·cases e
   ·cases e
  ·cases e
theorem qcy {S:Sh} {ts:List AVal} {a:Act} {u:AVal} {v:Value} (ht:VRl S ts a.tmps.toList) (hv:VR S u v) (dst:Option Tmp):VRl S (setT ts dst u) (a.put dst v).tmps.toList:=by
 cases dst with
 |none=>exact ht
 |some d=>simpa[setT,Act.put]using ht.set d hv
theorem qbr (a:Act) (dst:Option Tmp) (v:Value):(a.put dst v).defers=a.defers:=by cases dst<;>rfl
def TmR (S:Sh) (x:AEx×St) (ts:List Value):Prop:=VRl S x.2.tmps ts∨((∃v,x.1= .pan v)∧x.2.tmps=[])
theorem TmR.vr {S:Sh} {ex:AEx} {s:St} {ts:List Value} (h:TmR S (ex,s) ts) (hn:∀v,ex≠ .pan v):VRl S s.tmps ts:=by
 rcases h with h|⟨⟨v,h⟩,_⟩
 ·exact h
 ·exact(hn v h).elim
def Post (P:Program) [Tabs P] (S:Sh) (w:World) (ds:List Deferred) (Q:Exit→Act→World→Prop) (x:AEx×St):Prop:=
 ∀S' w' a',Step P S w S' x.2.heap w'→TmR S' x a'.tmps.toList→a'.defers=ds→
  match x.1 with
  | .normal=>Q .normal a' w'
  | .exit id=>Q (.exit id) a' w'
  | .ret=>Q .ret a' w'
  | .pan u=>∀v,VR S' u v→Q (.panic [{ v,recovered:=false }]) a' w'
theorem Post.later [Tabs P] {S S1:Sh} {w w1:World} {h1:qaa} {ds:List Deferred} {Q:Exit→Act→World→Prop} {x:AEx×St} (k:Post P S w ds Q x) (st:Step P S w S1 h1 w1):Post P S1 w1 ds Q x:=
 fun S' w' a' h ht hd=>k S' w' a' (st.trans h) ht hd
theorem qg7 [Tabs P] {cmp:List TypeId} (hcmp:∀t∈cmp,qca P t=true) {call:Call} (hcall:qay P call) (hkeep:qaj call) (ops:Array Oper) {Q:Exit→Act→World→Prop} {ds:List Deferred}:
 ∀(m n:Nat) (s:St) (x:AEx×St) (a:Act) (S:Sh) (w:World),n+m=ops.size→WR P S s.heap w→VRl S s.tmps a.tmps.toList→a.defers=ds→
  opsA P cmp call ops.toList (ops.toList.drop n) s=some x→Post P S w ds Q x→wpOps P ops Q (List.range' n m) a w
 |0,n,s,x,a,S,w,hn,k,ht,hd,e,hp=>by
  rw[List.drop_eq_nil_of_le (by simp;omega)]at e
  cases e
  exact hp S w a (.refl k) (.inl ht) hd
 |m+1,n,s,x,a,S,w,hn,k,ht,hd,e,hp=>by
  have hlt:n<ops.size:=by omega
  have hg:ops[n]? =some ops[n]:=Array.getElem?_eq_getElem hlt
  rw[show ops.toList.drop n=ops[n]::ops.toList.drop (n+1) by
   rw[←Array.getElem_toList (h:=hlt)];exact(List.drop_eq_getElem_cons (by simpa using hlt))]at e
  rw[List.range'_succ]
  unfold wpOps
  simp only[hg]
  unfold opsA at e
  split at e
  ·rename_i hw
   rw[if_pos (qa1 ht hw)]
   refine .inl ?_
   split at e
   ·rename_i v f ho
    refine qga hcmp hcall hkeep k ht ho ?_
    intro v' S' w' st hv
    exact qg7 hcmp hcall hkeep ops m (n+1) _ x _ S' w' (by omega) st.wr (qcy (ht.ext st.ext) hv _) (by rw[qbr];exact hd) e (hp.later st)
   ·rename_i v f ho
    cases e
    refine qga hcmp hcall hkeep k ht ho ?_
    intro v' S' w' st hv
    exact hp S' w' a st (.inl (ht.ext st.ext)) hd v' hv
   ·cases e
  ·rename_i hw
   rw[if_neg (by rw[qa1 ht hw];simp)]
   exact qg7 hcmp hcall hkeep ops m (n+1) ⟨setT s.tmps ops[n].dst .undef,s.heap,s.dirty⟩ x _ S w (by omega) k (qcy ht .undef _) (by rw[qbr];exact hd) e hp
  ·cases e
theorem qna [Tabs P] {cmp:List TypeId} (hcmp:∀t∈cmp,qca P t=true) {call:Call} (hcall:qay P call) (hkeep:qaj call) {id:Nat} {ops:Array Oper} {Q:Exit→Act→World→Prop} {ds:List Deferred}
 {s:St} {x:AEx×St} {a:Act} {S:Sh} {w:World} (k:WR P S s.heap w) (ht:VRl S s.tmps a.tmps.toList) (hd:a.defers=ds)
 (e:opsA P cmp call ops.toList ops.toList s=some x) (hp:Post P S w ds Q x):(Code.region id ops false).wp P Q a w:=by
 refine wp_region ?_
 have:=qg7 hcmp hcall hkeep ops (Q:=Q) (ds:=ds) ops.size 0 s x a S w (by omega) k ht hd (by simpa using e) hp
 rwa [List.range_eq_range']
end Go.Ab
namespace Go.Ab
variable {P:Program} {cmp:List TypeId} {call:Call}
theorem qpn {l:List Operand} {t:Tmp} (h:Operand.tmp t∈l):t∈qbm l:=by
 unfold qbm
 exact List.mem_filterMap.2 ⟨_,h,rfl⟩
theorem qae {ts ts':List AVal} {l:List Operand} (h:∀t∈qbm l,ts'[t]? =ts[t]?) {x:Operand} (hx:x∈l):qab x ts'=qab x ts:=by
 cases x with
 |tmp t=>exact h t (qpn hx)
 |const v=>rfl
 |global g=>rfl
 |func f=>rfl
theorem qe7 {ts ts':List AVal} {l:List Operand} (h:∀t∈qbm l,ts'[t]? =ts[t]?):∀{xs:List Operand},(∀x∈xs,x∈l)→qal ts' xs=qal ts xs
 |[],_=>rfl
 |x::xs,hx=>by
  simp only[qal,qae h (hx x (by simp)),qe7 (xs:=xs) h (fun y hy=>hx y (by simp[hy]))]
theorem qfw {ts ts':List AVal} {l:List Operand} (h:∀t∈qbm l,ts'[t]? =ts[t]?):∀{xs:List (Nat×Operand)},(∀x∈xs,x.2∈l)→qar ts' xs=qar ts xs
 |[],_=>rfl
 |(i,x)::xs,hx=>by
  simp only[qar,qae h (hx (i,x) (by simp)),qfw (xs:=xs) h (fun y hy=>hx y (by simp[hy]))]
theorem qg8 {ts ts':List AVal} {l:List Operand} (h:∀t∈qbm l,ts'[t]? =ts[t]?) {x:Option Operand} (hx:∀y,x=some y→y∈l):optA ts' x=optA ts x:=by
 cases x with
 |none=>rfl
 |some y=>simp only[optA,qae h (hx y rfl)]
theorem qd8 {o:Oper} {ts ts':List AVal} {h:qaa} (hc:∀t∈qbm o.op.operands.toList,ts'[t]? =ts[t]?):opA P cmp call o ts' h=opA P cmp call o ts h:=by
 obtain⟨dst,op,type,pos,after,guard⟩:=o
 cases op with
 |makeFunc fn first cap=>
  have h1:qal ts' first.toList=qal ts first.toList:=qe7 hc (fun x hx=>by simp[Op.operands]at hx ⊢;exact .inl hx)
  have h2:qal ts' cap.toList=qal ts cap.toList:=qe7 hc (fun x hx=>by simp[Op.operands]at hx ⊢;exact .inr hx)
  cases fn<;>simp only[opA,h1,h2]
 |build t ps=>
  have h1:qar ts' ps.toList=qar ts ps.toList:=qfw hc (fun x hx=>by simp only[Op.operands,wt];exact⟨x,hx,rfl⟩)
  simp only[opA,h1]
 |buildSlice t n ps=>
  have h1:qar ts' ps.toList=qar ts ps.toList:=qfw hc (fun x hx=>by simp only[Op.operands,wt];exact⟨x,hx,rfl⟩)
  simp only[opA,h1]
 |call c=>
  obtain⟨callee,args,ats⟩:=c
  have h1:qal ts' args.toList=qal ts args.toList:=qe7 hc (fun x hx=>by simp[Op.operands,Call.operands]at hx ⊢;exact .inr hx)
  cases callee with
  |value f=>
   have h2:qab f ts'=qab f ts:=qae hc (by simp[Op.operands,Call.operands])
   simp only[opA,h1,h2]
  |invoke r m=>simp only[opA]
  |builtin b=>simp only[opA,h1]
 |slice t x lo hi mx=>
  have h1:qab x ts'=qab x ts:=qae hc (by simp[Op.operands])
  have h2:optA ts' lo=optA ts lo:=qg8 hc (fun y hy=>by subst hy;simp[Op.operands])
  have h3:optA ts' hi=optA ts hi:=qg8 hc (fun y hy=>by subst hy;simp[Op.operands])
  have h4:optA ts' mx=optA ts mx:=qg8 hc (fun y hy=>by subst hy;simp[Op.operands])
  simp only[opA,h1,h2,h3,h4]
 |pick c a b=>
  have h1:qab c ts'=qab c ts:=qae hc (by simp[Op.operands])
  have h2:qab a ts'=qab a ts:=qae hc (by simp[Op.operands])
  have h3:qab b ts'=qab b ts:=qae hc (by simp[Op.operands])
  simp only[opA,h1,h2,h3]
 |store t a v=>
  have h1:qab a ts'=qab a ts:=qae hc (by simp[Op.operands])
  have h2:qab v ts'=qab v ts:=qae hc (by simp[Op.operands])
  simp only[opA,h1,h2]
 |binOp op t x y t2=>
  have h1:qab x ts'=qab x ts:=qae hc (by simp[Op.operands])
  have h2:qab y ts'=qab y ts:=qae hc (by simp[Op.operands])
  simp only[opA,h1,h2]
 |indexAddr t x i=>
  have h1:qab x ts'=qab x ts:=qae hc (by simp[Op.operands])
  have h2:qab i ts'=qab i ts:=qae hc (by simp[Op.operands])
  simp only[opA,h1,h2]
 |index t x i=>
  have h1:qab x ts'=qab x ts:=qae hc (by simp[Op.operands])
  have h2:qab i ts'=qab i ts:=qae hc (by simp[Op.operands])
  simp only[opA,h1,h2]
 |insert t m k x=>
  have h1:qab m ts'=qab m ts:=qae hc (by simp[Op.operands])
  have h2:qab k ts'=qab k ts:=qae hc (by simp[Op.operands])
  have h3:qab x ts'=qab x ts:=qae hc (by simp[Op.operands])
  simp only[opA,h1,h2,h3]
 |mapUpdate t m k x=>
  have h1:qab m ts'=qab m ts:=qae hc (by simp[Op.operands])
  have h2:qab k ts'=qab k ts:=qae hc (by simp[Op.operands])
  have h3:qab x ts'=qab x ts:=qae hc (by simp[Op.operands])
  simp only[opA,h1,h2,h3]
 |lookup t m k ok=>
  have h1:qab m ts'=qab m ts:=qae hc (by simp[Op.operands])
  have h2:qab k ts'=qab k ts:=qae hc (by simp[Op.operands])
  simp only[opA,h1,h2]
 |makeSlice t m k=>
  have h1:qab m ts'=qab m ts:=qae hc (by simp[Op.operands])
  have h2:qab k ts'=qab k ts:=qae hc (by simp[Op.operands])
  simp only[opA,h1,h2]
 |makeMap t r=>cases r<;>rfl
 |move x=>simp only[opA,qae (x:=x) hc (by simp[Op.operands])]
 |assign x=>simp only[opA,qae (x:=x) hc (by simp[Op.operands])]
 |box t x=>simp only[opA,qae (x:=x) hc (by simp[Op.operands])]
 |load t x=>simp only[opA,qae (x:=x) hc (by simp[Op.operands])]
 |nilCheck x=>simp only[opA,qae (x:=x) hc (by simp[Op.operands])]
 |unOp op t x=>simp only[opA,qae (x:=x) hc (by simp[Op.operands])]
 |convert s d x=>simp only[opA,qae (x:=x) hc (by simp[Op.operands])]
 |makeInterface t x=>simp only[opA,qae (x:=x) hc (by simp[Op.operands])]
 |fieldAddr s x f=>simp only[opA,qae (x:=x) hc (by simp[Op.operands])]
 |field t x f=>simp only[opA,qae (x:=x) hc (by simp[Op.operands])]
 |typeAssert x a b c=>simp only[opA,qae (x:=x) hc (by simp[Op.operands])]
 |extract x i=>simp only[opA,qae (x:=x) hc (by simp[Op.operands])]
 |panic x=>simp only[opA,qae (x:=x) hc (by simp[Op.operands])]
 |_=>simp only[opA]
theorem ql3 {ts:List AVal}:∀{l:List Operand} {vs:List AVal},qal ts l=some vs→l.length=vs.length
 |[],vs,h=>by simp only[qal,Option.some.injEq]at h;subst h;rfl
 |o::r,vs,h=>by
  simp only[qal]at h
  split at h
  ·rename_i a l _ hl
   cases h
   simp[ql3 hl]
  ·cases h
theorem qc7 {o:Oper} {ts:List AVal} {h:qaa} {r:OR} (hc:cls o=0) (e:opA P cmp call o ts h=some r):(∀h',opA P cmp call o ts h'=some r)∧∃v,r= .val v .same:=by
 have V:∀{x:Option AVal} {r:OR},(match x with|some a=>some (OR.val a .same)|none=>none)=some r→∃v,r= .val v .same:=by
  intro x r hx
  cases x with
  |none=>cases hx
  |some a=>cases hx;exact⟨a,rfl⟩
 obtain⟨dst,op,type,pos,after,guard⟩:=o
 cases op with
 |call c=>
  obtain⟨callee,args,ats⟩:=c
  cases callee with
  |builtin b=>
   cases b<;>(try (simp only[cls]at hc;first|(cases hc;done)|(split at hc<;>cases hc;done)))
   case len=>
    simp only[cls]at hc
    split at hc
    ·cases hc
    ·rename_i hsz
     exfalso
     simp only[opA]at e
     split at e
     ·rename_i x t has hat
      apply hsz
      rw[←Array.length_toList,ql3 has];rfl
     ·rename_i x y t has hat;simp at e
     ·cases e
   all_goals
    simp only[opA]at e ⊢
    refine⟨fun h'=> ?_,?_⟩
    ·first
      |(rw[←e];done)
      |((repeat' split at e)<;>first|(cases e;done)|(simp_all;done))
    ·(repeat' split at e)<;>first|(cases e;exact⟨_,rfl⟩)|(cases e;done)|exact V e
  |value f=>simp[cls]at hc
  |invoke r m=>simp[opA]at e
 |makeFunc fn first cap=>
  cases fn<;>simp only[opA]at e ⊢ <;>first
   |(cases e;done)
   |(refine⟨fun h'=>by rw[←e],?_⟩;(repeat' split at e)<;>first|(cases e;exact⟨_,rfl⟩)|(cases e;done))
 |alloc=>simp[cls]at hc
 |box=>simp[cls]at hc
 |load=>simp[cls]at hc
 |store=>simp[cls]at hc
 |panic=>simp[cls]at hc
 |makeSlice=>simp[cls]at hc
 |makeMap=>simp[cls]at hc
 |lookup=>simp[cls]at hc
 |mapUpdate=>simp[cls]at hc
 |insert=>simp[cls]at hc
 |_=>
  simp only[opA]at e ⊢ <;>first
   |(cases e;done)
   |(refine⟨fun h'=>by rw[←e],?_⟩;(repeat' split at e)<;>first|(cases e;exact⟨_,rfl⟩)|(cases e;done)|exact V e)
end Go.Ab
namespace Go.Ab
variable {P:Program} {cmp:List TypeId} {call:Call}
theorem qc8 {ts:List AVal} {dst:Option Tmp} {v:AVal} {t:Tmp} (h:∀d,dst=some d→d≠t):(setT ts dst v)[t]? =ts[t]? :=by
 cases dst with
 |none=>rfl
 |some d=>exact wg (h d rfl)
theorem qh5 {ts:List AVal} {x y:Option Tmp} {u v:AVal} (h:∀d,x=some d→y≠some d):setT (setT ts x u) y v=setT (setT ts y v) x u:=by
 cases x with
 |none=>rfl
 |some d=>cases y with
  |none=>rfl
  |some d'=>
   have:d≠d':=fun e=>h d rfl (by rw[e])
   exact List.set_comm _ _ this
theorem qau {ops:List Oper} {o:Oper} {ts ts':List AVal} (h:∀t∈qbw ops o,ts'[t]? =ts[t]?):qak ops o ts'=qak ops o ts:=by
 unfold qak
 split
 ·rfl
 ·rename_i j want hg
  split
  ·rename_i oj hj
   split
   ·rename_i d hd
    rw[h d (by simp[qbw,hg,hj,hd])]
   ·rfl
  ·rfl
theorem qh6 {ops:List Oper} {x y:Oper} (h:qfh ops x y=true):
 (∀d,x.dst=some d→∀t∈qbw ops y,d≠t)∧(∀d,y.dst=some d→∀t∈qbw ops x,d≠t)∧(∀d,x.dst=some d→y.dst≠some d):=by
 unfold qfh at h
 simp only[wa]at h
 refine⟨fun d hd t ht e=> ?_,fun d hd t ht e=> ?_,fun d hd e=> ?_⟩
 ·have:=h.1;simp only[hd,wa,wd]at this
  subst e
  have h2:=this.1
  rw[wc]at h2
  simp[ht]at h2
 ·have:=h.2;simp only[hd,wd]at this
  subst e
  rw[wc]at this
  simp[ht]at this
 ·have:=h.1;simp only[hd,wa,wd]at this
  rw[e]at this;simp at this
theorem qbd {o:Oper} {ts:List AVal} {h:qaa} {r:OR} (hc:cls o=1) (e:opA P cmp call o ts h=some r):(∃v,r= .val v .same)∧∃x,rdOp o.op=some x∧
 (∀b,nbA (qab x ts)=some b→∃x0,h[b]? =some x0∧((∃off n,qab x ts=some (.mptr b off n))∨x0.isR=true))∧
 ∀h':qaa,(∀b,nbA (qab x ts)=some b→h'[b]? =h[b]?)→opA P cmp call o ts h'=some r:=by
 obtain⟨dst,op,type,pos,after,guard⟩:=o
 cases op with
 |call c=>
  obtain⟨callee,args,ats⟩:=c
  cases callee with
  |builtin b=>
   cases b<;>(try (simp only[cls]at hc;first|(cases hc;done)|(split at hc<;>cases hc;done)))
   have hsz:args.size=1:=by
    simp only[cls]at hc
    split at hc
    ·assumption
    ·cases hc
   obtain⟨x,rfl⟩:=Array.size_eq_one_iff.1 hsz
   have hro:rdOp (.call { callee:= .builtin .len,args:= #[x],argTypes:=ats }:Op)=some x:=rfl
   simp only[opA,qal]at e ⊢
   cases hx:qab x ts with
   |none=>rw[hx]at e;simp at e
   |some u=>
    rw[hx]at e
    simp only at e ⊢
    cases hat:ats[0]? with
    |none=>rw[hat]at e;simp at e
    |some t=>
     rw[hat]at e
     simp only at e ⊢
     have no:nbA (some u)=none→(∀b,nbA (some u)=some b→∃x0,h[b]? =some x0∧((∃off n,some u=some (.mptr b off n))∨x0.isR=true)):=fun hn b hb=>by rw[hn]at hb;cases hb
     split at e
     ·split at e
      ·rename_i hm9;cases e;exact⟨⟨_,rfl⟩,x,hro,by rw[hx];exact no rfl,fun h' _=>by rw[if_pos hm9]⟩
      ·cases e
     ·cases e;exact⟨⟨_,rfl⟩,x,hro,by rw[hx];exact no rfl,fun h' _=>rfl⟩
     ·cases e;exact⟨⟨_,rfl⟩,x,hro,by rw[hx];exact no rfl,fun h' _=>rfl⟩
     ·rename_i b kt1 et1 hd1 hu
      split at e
      ·rename_i a0 he0
       cases e
       refine⟨⟨_,rfl⟩,x,hro,fun b' hb'=> ?_,fun h' hh=> ?_⟩
       ·rw[hx]at hb'
        cases hb'
        unfold qfr at he0
        split at he0
        ·rename_i ks vs hb;exact⟨_,hb,.inr rfl⟩
        ·cases he0
       ·have:qfr h' b=some a0:=by
         unfold qfr at he0 ⊢
         rw[hh b (by rw[hx];rfl)];exact he0
        simp only[this]
      ·cases e
     ·cases e;exact⟨⟨_,rfl⟩,x,hro,by rw[hx];exact no rfl,fun h' _=>rfl⟩
     all_goals first|(simp_all;done)|cases e
  |value f=>simp[cls]at hc
  |invoke r m=>simp[cls]at hc
 |load t x=>
  simp only[opA]at e ⊢
  split at e
  ·rename_i p hp
   split at e
   ·rename_i u hu
    cases e
    refine⟨⟨u,rfl⟩,x,rfl,fun b hb=> ?_,fun h' hh=> ?_⟩
    ·rw[hp]at hb ⊢
     unfold qb9 at hu
     cases p<;>simp only[nbA]at hb hu<;>first|(cases hb;done)|(cases hu;done)|skip
     ·cases hb
      split at hu
      ·rename_i cs hb;exact⟨_,hb,.inr rfl⟩
      ·cases hu
     ·cases hb
      split at hu
      ·rename_i q cs l e0 hb;exact⟨_,hb,.inl ⟨_,_,rfl⟩⟩
      ·cases hu
    ·have:qb9 P h' t p=some u:=by
      rw[hp]at hh
      unfold qb9 at hu ⊢
      cases p<;>simp only at hu ⊢ <;>first|exact hu|skip
      ·rw[hh _ rfl];exact hu
      ·rw[hh _ rfl];exact hu
     simp only[this]
   ·cases e
  ·cases e
 |lookup t x k ok=>
  simp only[opA]at e ⊢
  split at e
  ·rename_i m u hm hk
   split at e
   ·rename_i a hu
    cases e
    refine⟨⟨a,rfl⟩,x,rfl,fun b hb=> ?_,fun h' hh=> ?_⟩
    ·rw[hm]at hb ⊢
     have hmap:∀c,m= .mref c→∃ks vs,h[c]? =some (.map ks vs):=by
      intro c hc9
      subst hc9
      unfold qcw at hu
      (repeat' split at hu)<;>first
       |(cases hu;done)
       |(rename_i h8;cases h8;exact⟨_,_,by assumption⟩)
       |skip
      all_goals simp_all
     have hno:∀c o,m≠ .ptr c o:=by
      intro c o hc9
      subst hc9
      unfold qcw at hu
      (repeat' split at hu)<;>first|(cases hu;done)|simp_all
     have hno2:∀c o n,m≠ .mptr c o n:=by
      intro c o n hc9
      subst hc9
      unfold qcw at hu
      (repeat' split at hu)<;>first|(cases hu;done)|simp_all
     cases m<;>simp only[nbA]at hb<;>first|(cases hb;done)|skip
     ·exact absurd rfl (hno _ _)
     ·exact absurd rfl (hno2 _ _ _)
     ·cases hb
      obtain⟨ks,vs,h7⟩:=hmap _ rfl
      exact⟨_,h7,.inr rfl⟩
    ·have:qcw P h' t m u ok=some a:=by
      rw[hm]at hh
      unfold qcw at hu ⊢
      cases m<;>simp only at hu ⊢ <;>first|exact hu|skip
      rw[hh _ rfl];exact hu
     simp only[this]
   ·cases e
  ·cases e
 |_=>simp[cls]at hc
theorem qfk {o:Oper} {ts:List AVal} {h:qaa} {v:AVal} {f:Eff} (hc:cls o=3) (e:opA P cmp call o ts h=some (.val v f)):
 ∃t a x b X,o.op= .store t a x∧((∃off,qab a ts=some (.ptr b off)∧∃cs,h[b]? =some (.box cs))∨(∃off n,qab a ts=some (.mptr b off n)∧∃p cs l e,h[b]? =some (.arr p cs l e)))∧v= .undef∧f= .heap (h.set b X) [b]∧
  (∃x0,h[b]? =some x0∧X.isR=x0.isR∧((∃cs,x0= .box cs)→∃cs,X= .box cs))∧
  ∀h':qaa,h'[b]? =h[b]? →opA P cmp call o ts h'=some (.val .undef (.heap (h'.set b X) [b])):=by
 obtain⟨dst,op,type,pos,after,guard⟩:=o
 cases op with
 |call c=>
  obtain⟨callee,args,ats⟩:=c
  cases callee with
  |builtin b=>cases b<;>(simp only[cls]at hc;first|(cases hc;done)|(split at hc<;>cases hc;done))
  |value f=>simp[cls]at hc
  |invoke r m=>simp[cls]at hc
 |store t a x=>
  simp only[opA]at e ⊢
  split at e
  ·rename_i p u hp hu
   split at e
   ·rename_i h1 b1 hst
    cases e
    unfold qbk at hst
    split at hst
    ·rename_i b off
     split at hst
     ·rename_i cs n hb hn
      split at hst
      ·rename_i hcond
       cases hset:qai cs off u.cells with
       |none=>rw[hset]at hst;cases hst
       |some cs'=>
        rw[hset]at hst
        simp only[wo,Option.some.injEq,Prod.mk.injEq]at hst
        obtain⟨rfl,rfl⟩:=hst
        refine⟨t,a,x,_,.box cs',rfl,.inl ⟨off,hp,cs,hb⟩,rfl,rfl,⟨_,hb,rfl,fun _=>⟨_,rfl⟩⟩,fun h' hh=> ?_⟩
        have:qbk P h' t (.ptr b off) u=some (h'.set b (.box cs'),b):=by
         unfold qbk
         simp only[hh,hb,hn]
         rw[if_pos hcond,hset];rfl
        simp only[hp,hu,this]
      ·cases hst
     ·cases hst
    ·rename_i b off k
     split at hst
     ·rename_i p cs l e0 n hb hn
      split at hst
      ·rename_i hkl
       split at hst
       ·rename_i hcond
        cases hset:qai cs (off-p) u.cells with
        |none=>rw[hset]at hst;cases hst
        |some cs'=>
         rw[hset]at hst
         simp only[wo,Option.some.injEq,Prod.mk.injEq]at hst
         obtain⟨rfl,rfl⟩:=hst
         refine⟨t,a,x,_,.arr p cs' l e0,rfl,.inr ⟨off,k,hp,p,cs,l,e0,hb⟩,rfl,rfl,⟨_,hb,rfl,fun⟨_,h⟩=>by cases h⟩,fun h' hh=> ?_⟩
         have:qbk P h' t (.mptr b off k) u=some (h'.set b (.arr p cs' l e0),b):=by
          unfold qbk
          simp only[hh,hb,hn]
          rw[if_pos hkl,if_pos hcond,hset];rfl
         simp only[hp,hu,this]
       ·cases hst
      ·cases hst
     ·cases hst
    ·cases hst
   ·cases e
  ·cases e
 |panic x=>
  simp only[opA]at e
  split at e<;>cases e
 |_=>simp[cls]at hc
theorem qgi {bb:Bool} {h:qaa} {t:TypeId} {s x r:AVal} {f:Eff} (e:qbf P bb h t s x=some (r,f)):
 f= .same∨(∃y,f= .heap (h++[y]) []∧y.isR=false)∨∃b x0 y,h[b]? =some x0∧x0.isR=false∧y.isR=false∧f= .heap (h.set b y) [b]:=by
 have hA:qbu P h t s x=some (r,f)→f= .same∨(∃y,f= .heap (h++[y]) []∧y.isR=false)∨∃b x0 y,h[b]? =some x0∧x0.isR=false∧y.isR=false∧f= .heap (h.set b y) [b]:=by
  intro e
  unfold qbu at e
  (repeat' split at e)<;>first
   |(cases e;done)
   |(cases e;exact .inl rfl)
   |(cases e;exact .inr (.inl ⟨_,rfl,rfl⟩))
   |(rename_i hb _;cases e;exact .inr (.inr ⟨_,_,_,hb,rfl,rfl,rfl⟩))
 have hM:qcg P h t s x=some (r,f)→f= .same∨(∃y,f= .heap (h++[y]) []∧y.isR=false)∨∃b x0 y,h[b]? =some x0∧x0.isR=false∧y.isR=false∧f= .heap (h.set b y) [b]:=by
  intro e
  unfold qcg qgn at e
  (repeat' split at e)<;>first
   |(cases e;done)
   |(cases e;exact .inl rfl)
   |(cases e;exact .inr (.inl ⟨_,rfl,rfl⟩))
   |(rename_i hb _;cases e;exact .inr (.inr ⟨_,_,_,hb,rfl,rfl,rfl⟩))
   |(rename_i hb _ _;cases e;exact .inr (.inr ⟨_,_,_,hb,rfl,rfl,rfl⟩))
   |(rename_i hb _ _ _ _ _ _;cases e;exact .inr (.inr ⟨_,_,_,hb,rfl,rfl,rfl⟩))
 unfold qbf at e
 split at e
 ·exact hM e
 ·exact hA e
theorem ql4 {o:Oper} {ts:List AVal} {h:qaa} {v:AVal} {f:Eff} (hc:cls o=2) (e:opA P cmp call o ts h=some (.val v f)):
 h.length≤(f.of h).length∧∀b,b<h.length→(∀x0,h[b]? =some x0→x0.isR=true→(f.of h)[b]? =some x0)∧(∀x0,(f.of h)[b]? =some x0→x0.isR=true→h[b]? =some x0)∧(qed o=false→(f.of h)[b]? =h[b]?):=by
 have add:∀x:Blk,∀q:Prop,h.length≤(h++[x]).length∧∀b,b<h.length→(∀x0,h[b]? =some x0→x0.isR=true→(h++[x])[b]? =some x0)∧(∀x0,(h++[x])[b]? =some x0→x0.isR=true→h[b]? =some x0)∧(q→(h++[x])[b]? =h[b]?):=by
  intro x q
  exact⟨by simp,fun b hb=>by rw[wl hb];exact⟨fun _ h _=>h,fun _ h _=>h,fun _=>rfl⟩⟩
 have put:∀(b:Nat) (x0 y:Blk),h[b]? =some x0→x0.isR=false→y.isR=false→
  h.length≤(h.set b y).length∧∀c,c<h.length→(∀z,h[c]? =some z→z.isR=true→(h.set b y)[c]? =some z)∧(∀z,(h.set b y)[c]? =some z→z.isR=true→h[c]? =some z)∧(true=false→(h.set b y)[c]? =h[c]?):=by
  intro b x0 y hb h0 h1
  refine⟨by simp,fun c hc'=> ?_⟩
  by_cases he:c=b
  ·subst he
   rw[List.getElem?_set_self hc',hb]
   refine⟨fun z hz hr=> ?_,fun z hz hr=> ?_,fun h=>by cases h⟩
   ·cases hz;rw[h0]at hr;cases hr
   ·cases hz;rw[h1]at hr;cases hr
  ·rw[wg (fun h=>he h.symm)]
   exact⟨fun _ h _=>h,fun _ h _=>h,fun _=>rfl⟩
 obtain⟨dst,op,type,pos,after,guard⟩:=o
 cases op with
 |call c=>
  obtain⟨callee,args,ats⟩:=c
  cases callee with
  |builtin b=>
   cases b<;>(try (simp only[cls]at hc;first|(cases hc;done)|(split at hc<;>cases hc;done)))
   simp only[opA]at e
   split at e
   ·cases e
   ·rename_i x y t has hat
    split at e
    ·split at e
     ·rename_i a f' hap
      cases e
      rcases qgi hap with rfl|⟨y,rfl,_⟩|⟨b,x0,y,hb,h0,h1,rfl⟩
      ·exact⟨wu _,fun _ _=>⟨fun _ h _=>h,fun _ h _=>h,fun _=>rfl⟩⟩
      ·exact add _ _
      ·exact put _ _ _ hb h0 h1
     ·cases e
    ·rename_i hne
     exfalso
     simp only[cls]at hc
     rw[hat,if_neg hne]at hc
     cases hc
   ·cases e
  |value f=>simp[cls]at hc
  |invoke r m=>simp[cls]at hc
 |alloc t=>
  simp only[opA]at e
  split at e
  ·cases e;exact add _ _
  ·cases e
 |box t x=>
  simp only[opA]at e
  split at e
  ·cases e;exact add _ _
  ·cases e
 |makeMap t r=>
  cases r with
  |none=>simp only[opA]at e;cases e;exact add _ _
  |some _=>simp[opA]at e
 |_=>simp[cls]at hc
theorem qk1 {o:Oper} {ts:List AVal} {h:qaa} {v:AVal} {f:Eff} (hc:cls o=2) (e:opA P cmp call o ts h=some (.val v f)):∀b∈f.dirt,(∃x0,h[b]? =some x0∧x0.isR=false)∧qed o=true:=by
 obtain⟨dst,op,type,pos,after,guard⟩:=o
 cases op with
 |call c=>
  obtain⟨callee,args,ats⟩:=c
  cases callee with
  |builtin b=>
   cases b<;>(try (simp only[cls]at hc;first|(cases hc;done)|(split at hc<;>cases hc;done)))
   simp only[opA]at e
   split at e
   ·cases e
   ·rename_i x y t has hat
    split at e
    ·split at e
     ·rename_i a f' hap
      cases e
      rcases qgi hap with rfl|⟨y,rfl,_⟩|⟨b,x0,y,hb,h0,h1,rfl⟩
      ·intro b hb;cases hb
      ·intro b hb;cases hb
      ·intro c hc9
       simp only[Eff.dirt,List.mem_singleton]at hc9
       subst hc9
       exact⟨⟨_,hb,h0⟩,rfl⟩
     ·cases e
    ·rename_i hne
     exfalso
     simp only[cls]at hc
     rw[hat,if_neg hne]at hc
     cases hc
   ·cases e
  |value f=>simp[cls]at hc
  |invoke r m=>simp[cls]at hc
 |alloc t=>
  simp only[opA]at e
  split at e
  ·cases e;intro b hb;cases hb
  ·cases e
 |box t x=>
  simp only[opA]at e
  split at e
  ·cases e;intro b hb;cases hb
  ·cases e
 |makeMap t r=>
  cases r with
  |none=>simp only[opA]at e;cases e;intro b hb;cases hb
  |some _=>simp[opA]at e
 |_=>simp[cls]at hc
theorem KeepH.app (h:qaa) (x:List Blk) (d:List Nat):KeepH h (h++x) d:=⟨by simp,fun b hb _=>wl hb⟩
theorem KeepH.set (h:qaa) (b:Nat) (x:Blk):KeepH h (h.set b x) [b]:=⟨by simp,fun c _ hc=>wg (fun e=>hc (by simp[e]))⟩
theorem KeepH.trans {h1 h2 h3:qaa} {d1 d2 d:List Nat} (a:KeepH h1 h2 d1) (b:KeepH h2 h3 d2) (s1:∀x∈d1,x∈d) (s2:∀x∈d2,x∈d):KeepH h1 h3 d:=
 ⟨Nat.le_trans a.1 b.1,fun c hc hd=>by
  rw[b.2 c (Nat.lt_of_lt_of_le hc a.1) (fun hm=>hd (s2 c hm)),a.2 c hc (fun hm=>hd (s1 c hm))]⟩
def KeepR (h:qaa):OR→Prop
 | .val _ f=>qbo h f
 | .pan _ f=>qbo h f
theorem qcp (hc:qaj call) {o:Oper} {ts:List AVal} {h:qaa} {r:OR} (e:opA P cmp call o ts h=some r):KeepR h r:=by
 have same:∀{v:AVal},KeepR h (.val v .same):=KeepH.refl _ _
 by_cases h0:cls o=0
 ·obtain⟨_,v,rfl⟩:=qc7 h0 e
  exact same
 by_cases h1:cls o=1
 ·obtain⟨⟨v,rfl⟩,_⟩:=qbd h1 e
  exact same
 obtain⟨dst,op,type,pos,after,guard⟩:=o
 cases op with
 |call c=>
  obtain⟨callee,args,ats⟩:=c
  cases callee with
  |builtin b=>
   cases b<;>(try (exact absurd rfl h0))
   case len=>
    simp only[cls]at h0 h1
    split at h0
    ·rename_i hz;rw[if_pos hz]at h1;exact absurd rfl h1
    ·exact absurd rfl h0
   simp only[opA]at e
   split at e
   ·cases e
   ·split at e
    ·split at e
     ·rename_i a f' hap
      cases e
      rcases qgi hap with rfl|⟨y,rfl,_⟩|⟨b,x0,y,hb,h0,h1,rfl⟩
      ·exact same
      ·exact KeepH.app _ _ _
      ·exact KeepH.set _ _ _
     ·cases e
    ·split at e
     ·rename_i a f' _ hap _
      cases e
      unfold qgo at hap
      (repeat' split at hap)<;>first
       |(cases hap;done)
       |(cases hap;exact KeepH.app _ _ _)
     ·cases e
   ·cases e
  |value f=>
   simp only[opA]at e
   split at e
   ·split at e
    ·rename_i r' hr'
     cases e
     have:=qpm hc hr'
     cases r'<;>exact this
    ·cases e
   ·cases e
  |invoke r m=>simp[opA]at e
 |alloc t=>
  simp only[opA]at e
  split at e
  ·cases e;exact KeepH.app _ _ _
  ·cases e
 |box t x=>
  simp only[opA]at e
  split at e
  ·cases e;exact KeepH.app _ _ _
  ·cases e
 |load t x=>
  obtain⟨⟨v,rfl⟩,_⟩:=qbd rfl e
  exact same
 |store t x y=>
  simp only[opA]at e
  split at e
  ·split at e
   ·rename_i h' b hs
    cases e
    unfold qbk at hs
    (repeat' split at hs)<;>first
     |(cases hs;done)
     |skip
    all_goals
     rw[Option.map_eq_some_iff]at hs
     obtain⟨cs,_,hs⟩:=hs
     cases hs
     exact KeepH.set _ _ _
   ·cases e
  ·cases e
 |makeSlice t x y=>
  simp only[opA]at e
  split at e
  ·split at e
   ·rename_i u f hm
    cases e
    unfold qc3 at hm
    (repeat' split at hm)<;>first
     |(cases hm;done)
     |(cases hm;exact same)
     |(cases hm;exact KeepH.app _ _ _)
   ·cases e
  ·cases e
 |makeMap t r=>
  cases r with
  |some _=>simp[opA]at e
  |none=>simp only[opA]at e;cases e;exact KeepH.app _ _ _
 |lookup t m k ok=>
  simp only[opA]at e
  split at e
  ·split at e
   ·cases e;exact same
   ·cases e
  ·cases e
 |mapUpdate t m k x=>
  simp only[opA]at e
  split at e
  ·split at e
   ·rename_i h' b hm
    cases e
    unfold qdd at hm
    (repeat' split at hm)<;>first
     |(cases hm;done)
     |(cases hm;exact KeepH.set _ _ _)
   ·cases e
  ·cases e
 |insert t m k x=>
  simp only[opA]at e
  split at e
  ·split at e
   ·rename_i h' b hm
    cases e
    unfold qdd at hm
    (repeat' split at hm)<;>first
     |(cases hm;done)
     |(cases hm;exact KeepH.set _ _ _)
   ·cases e
  ·cases e
 |panic x=>
  simp only[opA]at e
  split at e
  ·cases e;exact KeepH.refl _ _
  ·cases e
 |_=>exact absurd rfl h0
theorem opA_new {o:Oper} {ts:List AVal} {h:qaa} {v:AVal} {f:Eff} (hn:isNew o=true) (e:opA P cmp call o ts h=some (.val v f)):∃b,f.of h=h++[b]:=by
 obtain⟨dst,op,ty,pos,after,gd⟩:=o
 cases op with
 |alloc t=>
  simp only[opA]at e
  split at e
  ·cases e;exact⟨_,rfl⟩
  ·cases e
 |box t x=>
  simp only[opA]at e
  split at e
  ·cases e;exact⟨_,rfl⟩
  ·cases e
 |_=>cases hn
theorem qoh (hkeep:qaj call) {o:Oper} {ts:List AVal} {h t:qaa} {v:AVal} (hc:cls o=4) (e:opA P cmp call o ts h=some (.val v .same)):opA P cmp call o ts (h++t)=some (.val v .same):=by
 obtain⟨dst,op,ty,pos,after,gd⟩:=o
 cases op with
 |call r=>
  obtain⟨callee,args,ats⟩:=r
  cases callee with
  |value f=>
   simp only[opA]at e ⊢
   split at e
   ·split at e
    ·rename_i r hr
     cases r with
     |ret v' e'=>
      simp only[qg1,Option.some.injEq,OR.val.injEq]at e
      obtain⟨rfl,rfl⟩:=e
      rw[callA_app hkeep hr];rfl
     |pan v' e'=>simp[qg1]at e
    ·cases e
   ·cases e
  |builtin b=>cases b<;>(simp only[cls]at hc;first|(cases hc;done)|(split at hc<;>cases hc;done))
  |invoke x m=>simp[opA]at e
 |_=>simp[cls]at hc
theorem qbe {lim:Nat} {ops:List Oper} {j:Nat} {s s':St} (e:qat P cmp call lim ops j s=some s'):∃o,ops[j]? =some o∧
 (
  (qak ops o s.tmps=some true∧∃v f,opA P cmp call o s.tmps s.heap=some (.val v f)∧askD lim ops j o s f=true∧s'=⟨setT s.tmps o.dst v,f.of s.heap,f.dirt++s.dirty⟩)∨
  (qak ops o s.tmps=some false∧s'=⟨setT s.tmps o.dst .undef,s.heap,s.dirty⟩)):=by
 unfold qat at e
 split at e
 ·cases e
 ·rename_i o ho
  refine⟨o,ho,?_⟩
  split at e
  ·rename_i hw
   split at e
   ·rename_i v f hv
    split at e
    ·rename_i ha;cases e;exact .inl ⟨hw,v,f,hv,ha,rfl⟩
    ·cases e
   ·cases e
  ·rename_i hw;cases e;exact .inr ⟨hw,rfl⟩
  ·cases e
theorem qg9 {o:Oper} {a:Operand} (h:rdOp o.op=some a):cls o=1:=by
 obtain⟨dst,op,type,pos,after,guard⟩:=o
 cases op with
 |call c=>
  obtain⟨callee,args,ats⟩:=c
  cases callee with
  |builtin b=>cases b<;>first|(simp[rdOp]at h;done)|(simp only[rdOp]at h;simp only[cls];split at h<;>first|(rename_i h0;rw[if_pos h0])|cases h)
  |_=>simp[rdOp]at h
 |_=>first|rfl|(simp[rdOp]at h)
theorem qeu {o:Oper} {a:Operand} (h:rdOp o.op=some a):a∈o.op.operands.toList:=by
 obtain⟨dst,op,type,pos,after,guard⟩:=o
 cases op with
 |call c=>
  obtain⟨callee,args,ats⟩:=c
  cases callee with
  |builtin b=>cases b<;>first|(simp[rdOp]at h;done)|(simp only[rdOp]at h;split at h<;>first|(simp only[Op.operands,Call.operands];have:=Array.mem_of_getElem? h;simp[this])|cases h)
  |_=>simp[rdOp]at h
 |_=>first|(simp[rdOp]at h;done)|(simp only[rdOp,Option.some.injEq]at h;subst h;simp[Op.operands])
theorem qfx {lim:Nat} {ops:List Oper} {j:Nat} {d:List Nat} {v:Option AVal} {b:Nat} (h:qbh lim ops j d v=true) (hb:nbA v=some b):b<lim:=by
 unfold nbA at hb
 split at hb<;>first|(cases hb;done)|(cases hb;simp only[qbh,wa,decide_eq_true_eq]at h;first|exact h.1|exact h.1.1)
theorem rdAsk_d {lim:Nat} {ops:List Oper} {j:Nat} {d:List Nat} {v:Option AVal} {b:Nat} (h:qbh lim ops j d v=true) (hb:nbA v=some b):b∉d∨qce qcx ops j=true:=by
 unfold nbA at hb
 split at hb<;>first|(cases hb;done)|(cases hb;simp only[qbh,wa,wb,wd,wc,decide_eq_false_iff_not]at h;first|exact h.2|exact h.1.2)
theorem qlq {lim:Nat} {ops:List Oper} {j:Nat} {d:List Nat} {b off n:Nat} (h:qbh lim ops j d (some (.mptr b off n))=true):qce qed ops j=true:=by
 simp only[qbh,wa]at h;exact h.2
theorem qha {lim:Nat} {ops:List Oper} {j:Nat} {d d':List Nat} {v:Option AVal} (hd:∀b,nbA v=some b→b∉d→qce qcx ops j=true∨b∉d') (h:qbh lim ops j d v=true):qbh lim ops j d' v=true:=by
 have key:∀b,nbA v=some b→(!d.contains b||qce qcx ops j)=true→(!d'.contains b||qce qcx ops j)=true:=by
  intro b hb hk
  simp only[wb,wd,wc,decide_eq_false_iff_not]at hk ⊢
  rcases hk with hk|hk
  ·rcases hd b hb hk with h9|h9
   ·exact .inr h9
   ·exact .inl h9
  ·exact .inr hk
 unfold qbh at h ⊢
 split at h
 ·simp only[wa]at h ⊢;exact⟨h.1,key _ rfl h.2⟩
 ·simp only[wa]at h ⊢;exact⟨h.1,key _ rfl h.2⟩
 ·simp only[wa]at h ⊢;exact⟨⟨h.1.1,key _ rfl h.1.2⟩,h.2⟩
 ·rfl
theorem ql5 {p:Oper→Bool} {ops:List Oper} {i j:Nat} {y:Oper} (hy:ops[j]? =some y) (hp:p y=true) (hij:i≠j) (h1:j∉(ancs [] ops).getD i []) (h2:i∉(ancs [] ops).getD j []):qce p ops i=false:=by
 cases hs:qce p ops i with
 |false=>rfl
 |true=>
  exfalso
  unfold qce at hs
  have:=we.1 hs j (by simpa using(wh.1 hy).1)
  simp only[hy,hp,wi,wb,beq_iff_eq,wc,decide_eq_true_eq,wm,or_false]at this
  rcases this with(h|h)|h
  ·exact hij h.symm
  ·exact h1 h
  ·exact h2 h
theorem qfy {af:List Edge} {ts ts':List AVal} {d:List Nat}:∀(q j:Nat) (l:List Oper),(∀i x,i<j→l[i]? =some x→cls x=1→∀t∈qbm x.op.operands.toList,ts'[t]? =ts[t]?)→qad af ts d q j l=true→qad af ts' d q j l=true
 |q,0,l,_,_=>by unfold qad;rfl
 |q,j+1,[],_,_=>by unfold qad;rfl
 |q,j+1,o::r,ht,h=>by
  simp only[qad,wa]at h ⊢
  refine⟨?_,qfy (q+1) j r (fun i x hi hx=>ht (i+1) x (by omega) (by simpa using hx)) h.2⟩
  have h1:=h.1
  split at h1
  ·rename_i a ho
   have:qab a ts'=qab a ts:=qae (ht 0 o (by omega) rfl (qg9 ho)) (qeu ho)
   rw[this];exact h1
  ·rfl
theorem qpo {ops:List Oper} {j:Nat} {o:Oper} {ts ts':List AVal} (ho:∀t∈qbm o.op.operands.toList,ts'[t]? =ts[t]?) (hq:∀i x,i<j→ops[i]? =some x→cls x=3→∀t∈qbm x.op.operands.toList,ts'[t]? =ts[t]?)
 (h:stOk ops j o ts=true):stOk ops j o ts'=true:=by
 unfold stOk at h ⊢
 refine we.2 (fun i hi=> ?_)
 have h1:=we.1 h i hi
 have hij:i<j:=by simpa using hi
 cases hx:ops[i]? with
 |none=>rfl
 |some x=>
  rw[hx]at h1
  simp only[wq]at h1 ⊢
  unfold stAt at h1 ⊢
  split at h1
  ·rename_i t a v t' a' v' hxo hoo
   rw[wb]at h1 ⊢
   have hc:cls x=3:=by unfold cls;rw[hxo]
   have e1:qab a ts'=qab a ts:=qae (hq i x hij hx hc) (by rw[hxo];simp[Op.operands])
   have e2:qab a' ts'=qab a' ts:=qae ho (by rw[hoo];simp[Op.operands])
   rw[e1,e2];exact h1
  ·rfl
theorem qfl {lim:Nat} {ops:List Oper} {j:Nat} {o:Oper} {s s':St} {f:Eff} (ht:∀t∈qbm o.op.operands.toList,s'.tmps[t]? =s.tmps[t]?) (hl:cls o=2→lim≤s.heap.length→lim≤s'.heap.length)
 (hq:∀i x,i<j→ops[i]? =some x→(cls x=1∨cls x=3)→∀t∈qbm x.op.operands.toList,s'.tmps[t]? =s.tmps[t]?)
 (hd:∀a b,rdOp o.op=some a→nbA (qab a s.tmps)=some b→b∉s.dirty→qce qcx ops j=true∨b∉s'.dirty)
 (h:askD lim ops j o s f=true):askD lim ops j o s' f=true:=by
 unfold askD at h ⊢
 split at h
 ·rename_i hc
  split at h
  ·rename_i x ho
   have:qab x s'.tmps=qab x s.tmps:=qae ht (qeu ho)
   rw[this]
   exact qha (fun b hb hn=>hd x b ho hb hn) h
  ·cases h
 ·rename_i hc
  simp only[decide_eq_true_eq]at h ⊢
  exact hl hc h
 ·rename_i hc
  simp only[wb,wa]at h ⊢
  exact⟨h.1.imp id (qfy 0 j ops (fun i x hi hx hc=>hq i x hi hx (.inl hc))),h.2.imp id (qpo ht (fun i x hi hx hc=>hq i x hi hx (.inr hc)))⟩
 ·rename_i hc
  simp only[wb,wa]at h ⊢
  exact⟨h.1.imp id (fun h=>⟨h.1,qfy 0 j ops (fun i x hi hx hc=>hq i x hi hx (.inl hc)) h.2⟩),h.2⟩
 ·exact h
 ·rfl
theorem qcc {lim:Nat} {ops:List Oper} {j:Nat} {o:Oper} {s:St} {f:Eff} (h:cls o=0):askD lim ops j o s f=true:=by
 unfold askD;rw[h]
 rfl
theorem qjd {ops:List Oper} (h:ssaL ops=true) {i k:Nat} {x y:Oper} (hik:i≤k) (hx:ops[i]? =some x) (hy:ops[k]? =some y) (hc:cls x=1∨cls x=3):∀d,y.dst=some d→d∉qbm x.op.operands.toList:=by
 intro d hd hm
 have hk:k<ops.length:=(wh.1 hy).1
 unfold ssaL at h
 have h1:=we.1 h k (by simpa using hk)
 have h2:=we.1 h1 i (by simp;omega)
 have hn:(cls x !=1 && cls x !=3)=false:=by rcases hc with hc|hc<;>rw[hc]<;>rfl
 simp only[hx,hy,hn,hd,wb,wm,false_or,wd,wc,decide_eq_false_iff_not]at h2
 exact h2 hm
def qd1 (P:Program) (cmp:List TypeId) (call:Call) (ops:List Oper) (j:Nat) (s s':St) (f:Eff):Prop:=∃o,ops[j]? =some o∧
 (
  (qak ops o s.tmps=some true∧∃v,opA P cmp call o s.tmps s.heap=some (.val v f)∧s'=⟨setT s.tmps o.dst v,f.of s.heap,f.dirt++s.dirty⟩)∨
  (qak ops o s.tmps=some false∧f= .same∧s'=⟨setT s.tmps o.dst .undef,s.heap,s.dirty⟩))
structure qgb (lim:Nat) (ops:List Oper) (j:Nat) (y:Oper) (pre:List Nat) (s:St) (f:Eff):Prop where
 c4:cls y=4→f.isSame=true∨qda ops j=true∨qe8 ops j=true
 ap:(cls y=3∧qdj y=true)∨(cls y=4∧f.isSame=false∧qda ops j=false)→∀q xq a b,q<j→ops[q]? =some xq→rdOp xq.op=some a→qbb q y.after.toList=false→
  (∀k∈pre,∀yk,ops[k]? =some yk→∀d,yk.dst=some d→d∉qbm xq.op.operands.toList)→nbA (qab a s.tmps)=some b→b∉f.dirt
 ld:qak ops y s.tmps=some true→∀a,rdOp y.op=some a→qbh lim ops j s.dirty (qab a s.tmps)=true
 ct:isCt y=true→f.dirt=[]
 c5:qak ops y s.tmps=some true→cls y=5→qda ops j=true
 st:isSt y=true→qdj y=true→∀q xq tq aq vq,q<j→ops[q]? =some xq→xq.op= .store tq aq vq→q∉(ancs [] ops).getD j []→(∀k∈pre,∀yk,ops[k]? =some yk→∀d,yk.dst=some d→d∉qbm xq.op.operands.toList)→
  ∀ty a v,y.op= .store ty a v→isMp (qab aq s.tmps)=true∧isPt (qab a s.tmps)=true
theorem addrOk_nb {d:List Nat} {v:Option AVal} {b:Nat} (h:qb0 d v=true) (hb:nbA v=some b):b∉d:=by
 unfold nbA at hb
 split at hb<;>first|(cases hb;done)|(cases hb;simpa only[qb0,wd,wc,decide_eq_false_iff_not]using h)
theorem ql6 {af:List Edge} {ts:List AVal} {d:List Nat}:∀(q j:Nat) (l:List Oper),qad af ts d q j l=true→∀i x a b,i<j→l[i]? =some x→rdOp x.op=some a→qbb (q+i) af=false→nbA (qab a ts)=some b→b∉d
 |q,0,l,_,i,x,a,b,hi,_,_,_,_=>by omega
 |q,j+1,[],_,i,x,a,b,hi,hx,_,_,_=>by simp at hx
 |q,j+1,o::r,h,0,x,a,b,hi,hx,ho,hp,hc=>by
  simp only[qad,wa]at h
  simp at hx;subst hx
  have h1:=h.1
  rw[ho]at h1
  simp only[Nat.add_zero]at hp
  simp only[hp,wk]at h1
  exact addrOk_nb h1 hc
 |q,j+1,o::r,h,i+1,x,a,b,hi,hx,ho,hp,hc=>by
  simp only[qad,wa]at h
  exact ql6 (q+1) j r h.2 i x a b (by omega) (by simpa using hx) ho (by rw[←hp];congr 1;omega) hc
theorem qk2 {lim:Nat} {ops:List Oper} {j:Nat} {s s':St} (e:qat P cmp call lim ops j s=some s'):∃y f,ops[j]? =some y∧qd1 P cmp call ops j s s' f∧qgb lim ops j y [] s f:=by
 obtain⟨o,ho,hc⟩:=qbe e
 rcases hc with⟨wx,v,f,ov,av,rfl⟩|⟨wx,rfl⟩
 ·refine⟨o,f,ho,⟨o,ho,.inl ⟨wx,v,ov,rfl⟩⟩,⟨fun hc=> ?_,fun hc q xq a b hq hxq hop hp _ hca=> ?_,fun _ a hop=> ?_,fun hct=> ?_,fun _ hc=> ?_,fun hst hdp q xq tq aq vq hq hxq hop hn _ ty a v hyo=> ?_⟩⟩
  ·unfold askD at av
   rw[hc]at av
   simp only[wb,wa]at av
   rcases av.1 with(h|h)|h
   ·exact .inl h
   ·exact .inr (.inl h)
   ·exact .inr (.inr h.1)
  ·have hap:qad o.after.toList s.tmps f.dirt 0 j ops=true:=by
    unfold askD at av
    rcases hc with⟨hc,hd⟩|⟨hc,hd,hs⟩
    ·rw[hc]at av
     simp only[hd,wi,wk,wa]at av
     exact av.1
    ·rw[hc]at av
     simp only[hd,hs,wk,wa]at av
     exact av.1.2
   exact ql6 0 j ops hap q xq a b hq hxq hop (by rw[Nat.zero_add];exact hp) hca
  ·unfold askD at av
   rw[qg9 hop]at av
   simpa only[hop]using av
  ·unfold askD at av
   have hc:cls o=4:=by
    unfold isCt at hct;split at hct
    ·rename_i h _;unfold cls;rw[h]
    ·cases hct
   rw[hc]at av
   simp only[wa,hct,wi,ws]at av
   exact List.isEmpty_iff.1 av.2
  ·unfold askD at av
   rw[hc]at av
   exact av
  ·unfold askD at av
   have hc3:cls o=3:=by unfold cls;rw[hyo]
   rw[hc3]at av
   simp only[hdp,wi,wk,wa]at av
   have h1:=av.2
   unfold stOk at h1
   have h2:=we.1 h1 q (by simpa using hq)
   rw[hxq]at h2
   simp only[wq,stAt,hop,hyo,wb,wa,wc,decide_eq_true_eq]at h2
   exact h2.resolve_left hn
 ·exact⟨o,.same,ho,⟨o,ho,.inr ⟨wx,rfl,rfl⟩⟩,⟨fun _=> .inl rfl,fun hc q xq a b hq hxq hop hp _ hca=>by simp[Eff.dirt],fun hw=>(by rw[wx]at hw;cases hw),fun _=>rfl,fun hw=>(by rw[wx]at hw;cases hw),fun hst=>by
   exfalso
   have hg:o.guard=none:=by
    unfold isSt at hst
    split at hst
    ·rename_i h1 h2 h3;exact h2
    ·cases hst
   unfold qak at wx
   rw[hg]at wx
   cases wx⟩⟩
theorem isMk_ct {o:Oper} (hc:cls o=4) (h:isMk o=true):isCt o=true:=by
 unfold isMk at h
 simp only[wb]at h
 rcases h with(h1|h1)|h1
 ·unfold isAl at h1
  split at h1
  ·rename_i t h2 h3;unfold cls at hc;rw[h2]at hc;cases hc
  ·cases h1
 ·exact h1
 ·split at h1
  ·rename_i t h2 h3;unfold cls at hc;rw[h2]at hc;cases hc
  ·cases h1
theorem swap {lim:Nat} {ops:List Oper} {i j:Nat} {x y:Oper} {s s1 s2:St} {fy:Eff} {pre:List Nat} (hij:i<j) (hx:ops[i]? =some x) (hy:ops[j]? =some y) (hp:qh1 ops x y=true) (hssa:ssaL ops=true) (hkeep:qaj call)
 (hsx:cls y≠0→qda ops i=false) (hsy:cls x≠0→qda ops j=false) (hfx:cls y≠0→cls y≠1→¬(isMk y=true∧isCt x=true)→qe8 ops i=false) (hfy:cls x≠0→cls x≠1→¬(isMk x=true∧isCt y=true)→qe8 ops j=false)
 (hax:∀p:Oper→Bool,p y=true→qce p ops i=false) (hay:∀p:Oper→Bool,p x=true→qce p ops j=false) (hlim:lim≤s.heap.length) (hpb:qbb i y.after.toList=false)
 (hpre:∀k∈pre,i<k) (e1:qat P cmp call lim ops i s=some s1) (e2:qd1 P cmp call ops j s1 s2 fy) (ask:qgb lim ops j y pre s1 fy):
 ∃s1',qd1 P cmp call ops j s s1' fy∧qat P cmp call lim ops i s1'=some s2∧qgb lim ops j y (i::pre) s fy:=by
 have hp0:=hp
 unfold qh1 at hp
 simp only[wa,wb,beq_iff_eq]at hp
 obtain⟨hin,hcl⟩:=hp
 obtain⟨d1,d2,d3⟩:=qh6 hin
 obtain⟨x',hx',c1⟩:=qbe e1
 rw[hx]at hx';cases hx'
 obtain⟨y',hy',c2⟩:=e2
 rw[hy]at hy';cases hy'
 have rx:∀{u:AVal} {ts:List AVal},∀t∈qbw ops x,(setT ts y.dst u)[t]? =ts[t]? :=fun t ht=>qc8 fun d hd=>d2 d hd t ht
 have ry:∀{u:AVal} {ts:List AVal},∀t∈qbw ops y,(setT ts x.dst u)[t]? =ts[t]? :=fun t ht=>qc8 fun d hd=>d1 d hd t ht
 have sub:∀o:Oper,∀t∈qbm o.op.operands.toList,t∈qbw ops o:=fun o t ht=>by simp[qbw,ht]
 have comm:∀{ts:List AVal} {u v:AVal},setT (setT ts x.dst u) y.dst v=setT (setT ts y.dst v) x.dst u:=qh5 d3
 have lq:∀{u:AVal} {ts:List AVal},∀q z,q<i→ops[q]? =some z→(cls z=1∨cls z=3)→∀t∈qbm z.op.operands.toList,(setT ts y.dst u)[t]? =ts[t]? :=fun {u ts} q z hq hz hcz t ht=>
  qc8 fun d hd e=>qjd hssa (show q≤j by omega) hz hy hcz d hd (by rw[e];exact ht)
 obtain⟨u1,hu1⟩:∃u,s1.tmps=setT s.tmps x.dst u:=by
  rcases c1 with⟨_,v,f,_,_,rfl⟩|⟨_,rfl⟩
  ·exact⟨v,rfl⟩
  ·exact⟨.undef,rfl⟩
 obtain⟨d0,hd0⟩:∃d,s1.dirty=d++s.dirty:=by
  rcases c1 with⟨_,v,f,_,_,rfl⟩|⟨_,rfl⟩
  ·exact⟨_,rfl⟩
  ·exact⟨[],rfl⟩
 have askS:qgb lim ops j y (i::pre) s fy:=by
  refine⟨ask.c4,fun hc q xq a b hq hxq hop hpq hk hca=> ?_,fun hw a hop=> ?_,ask.ct,fun hw hc=>ask.c5 (by rw[hu1,qau ry];exact hw) hc,fun hst hdp q xq tq aq vq hq hxq hop hn hk ty a v hyo=> ?_⟩
  ·refine ask.ap hc q xq a b hq hxq hop hpq (fun k hk'=>hk k (by simp[hk'])) ?_
   rw[hu1]
   have:qab a (setT s.tmps x.dst u1)=qab a s.tmps:=qae (fun t ht=>qc8 fun d hd e=>hk i (by simp) x hx d hd (by rw[e];exact ht)) (qeu hop)
   rw[this];exact hca
  ·have h9:=ask.ld (by rw[hu1,qau ry];exact hw) a hop
   have:qab a s1.tmps=qab a s.tmps:=by rw[hu1];exact qae (fun t ht=>ry t (sub y t ht)) (qeu hop)
   rw[this,hd0]at h9
   exact qha (fun b _ hn=> .inr fun hm=>hn (List.mem_append_right _ hm)) h9
  ·have h1:=ask.st hst hdp q xq tq aq vq hq hxq hop hn (fun k hk'=>hk k (by simp[hk'])) ty a v hyo
   rw[hu1]at h1
   have e1:qab aq (setT s.tmps x.dst u1)=qab aq s.tmps:=qae (fun t ht=>qc8 fun d hd e=>hk i (by simp) x hx d hd (by rw[e];exact ht)) (by rw[hop];simp[Op.operands])
   have e2:qab a (setT s.tmps x.dst u1)=qab a s.tmps:=qae (fun t ht=>ry t (sub y t ht)) (by rw[hyo];simp[Op.operands])
   rw[e1,e2]at h1
   exact h1
 rcases c1 with⟨wx,vx,fx,ox,ax,rfl⟩|⟨wx,rfl⟩
 ·rcases c2 with⟨wy,vy,oy,rfl⟩|⟨wy,rfl,rfl⟩
  ·-- both are wanted
   simp only at wy oy
   rw[qau ry]at wy
   rw[qd8 (fun t ht=>ry t (sub y t ht))]at oy
   have hdx:∀a b,rdOp x.op=some a→nbA (qab a s.tmps)=some b→b∉fy.dirt:=by
    intro a b hop hb
    have hx1:=qg9 hop
    have hap:(cls y=3∧qdj y=true)∨(cls y=4∧fy.isSame=false∧qda ops j=false)→b∉fy.dirt:=fun hc=>
     ask.ap hc i x a b hij hx hop hpb (fun k hk yk hyk d hd=>qjd hssa (Nat.le_of_lt (hpre k hk)) hx hyk (.inl hx1) d hd) (by
      have:qab a (setT s.tmps x.dst vx)=qab a s.tmps:=qae (fun t ht=>qc8 fun d hd e=>qjd hssa (wu i) hx hx (.inl hx1) d hd (by rw[e];exact ht)) (qeu hop)
      show nbA (qab a (setT s.tmps x.dst vx))=_
      rw[this];exact hb)
    obtain⟨⟨v',hv'⟩,q,hop',hst,_⟩:=qbd hx1 ox
    cases hv'
    rw[hop]at hop';cases hop'
    rcases hcl with(((((hc|hc)|⟨_,hc2,_⟩)|⟨_,hc2⟩)|⟨hc1,_⟩)|⟨_,hc2,hdp⟩)|⟨hc1,_⟩
    ·rw[hx1]at hc;cases hc
    ·obtain⟨_,v,hv⟩:=qc7 hc oy
     cases hv;intro hm;cases hm
    ·rcases hc2 with hc2|hc2
     ·obtain⟨⟨v',hv'⟩,_⟩:=qbd hc2 oy
      cases hv';intro hm;cases hm
     ·cases hfs:fy.isSame with
      |true=>cases fy with
       |same=>intro hm;cases hm
       |heap=>simp[Eff.isSame]at hfs
      |false=>exact hap (.inr ⟨hc2,hfs,hsy (by rw[hx1];decide)⟩)
    ·intro hm
     obtain⟨⟨x9,h9,hr9⟩,hapb⟩:=qk1 hc2 oy b hm
     obtain⟨x0,hx9,hor⟩:=hst b hb
     rw[show Eff.of s.heap .same=s.heap from rfl]at h9
     rcases hor with⟨off,n,hmp⟩|hR
     ·have h8:=ax
      unfold askD at h8
      rw[hx1]at h8
      simp only[hop,hmp]at h8
      have:=qlq h8
      rw[hax qed hapb]at this;cases this
     ·rw[hx9]at h9;cases h9;rw[hr9]at hR;cases hR
    ·rw[hx1]at hc1;cases hc1
    ·exact hap (.inl ⟨hc2,hdp⟩)
    ·rw[hx1]at hc1;cases hc1
   have key:opA P cmp call y s.tmps s.heap=some (.val vy fy)∧opA P cmp call x s.tmps (fy.of s.heap)=some (.val vx fx)∧fx.of (fy.of s.heap)=fy.of (fx.of s.heap)∧
    fx.dirt++(fy.dirt++s.dirty)=fy.dirt++(fx.dirt++s.dirty)∧askD lim ops i x ⟨s.tmps,fy.of s.heap,s.dirty⟩ fx=true:=by
    have ax':(cls x=2→lim≤s.heap.length→lim≤(fy.of s.heap).length)→askD lim ops i x ⟨s.tmps,fy.of s.heap,s.dirty⟩ fx=true:=fun hl=>
     qfl (s:=s) (fun t ht=>rfl) hl (fun _ _ _ _ _ _ _=>rfl) (fun _ _ _ _ hn=> .inr hn) ax
    by_cases hx0:cls x=0
    ·obtain⟨h1,v,hv⟩:=qc7 hx0 ox
     cases hv
     exact⟨oy,h1 _,rfl,rfl,qcc hx0⟩
    by_cases hy0:cls y=0
    ·obtain⟨h1,v,hv⟩:=qc7 hy0 oy
     cases hv
     exact⟨h1 _,ox,rfl,rfl,ax⟩
    have same4:cls x=1∨(cls x=4∧cls y≠1∧¬(isMk y=true∧isCt x=true))→fx= .same:=by
     intro hc
     rcases hc with hc|⟨hc,hcy,hct⟩
     ·obtain⟨⟨v',hv'⟩,_⟩:=qbd hc ox
      cases hv';rfl
     ·unfold askD at ax
      rw[hc]at ax
      simp only[hsx hy0,hfx hy0 hcy hct,ws,Bool.false_and,wa]at ax
      have ax:=ax.1
      cases fx with
      |same=>rfl
      |heap=>simp[Eff.isSame]at ax
    rcases hcl with(((((hc|hc)|⟨hc1,hc2,hc3⟩)|⟨hc1,hc2⟩)|⟨hc1,hc2⟩)|⟨hc1,hc2,hdp⟩)|⟨hc1,hnew,hnct⟩
    ·exact absurd hc hx0
    ·exact absurd hc hy0
    ·have hnct:¬(isCt x=true∧isCt y=true):=fun h=>by simp only[h.1,h.2,Bool.and_self,wi]at hc3;cases hc3
     rcases hc1 with hx1|hx4
     ·have hfxs:=same4 (.inl hx1)
      subst hfxs
      rcases hc2 with hc2|hc2
      ·obtain⟨⟨v',hv'⟩,_⟩:=qbd hc2 oy
       cases hv'
       exact⟨oy,ox,rfl,rfl,ax⟩
      ·obtain⟨_,q,hop,_,hre⟩:=qbd hx1 ox
       refine⟨oy,hre _ (fun b hb=> ?_),rfl,rfl,ax' (fun h2=>by rw[hx1]at h2;cases h2)⟩
       have hkf:qbo s.heap fy:=qcp hkeep oy
       have hax9:=ax
       unfold askD at hax9
       rw[hx1]at hax9
       simp only[hop]at hax9
       exact hkf.2 b (by have:=qfx hax9 hb;omega) (hdx q b hop hb)
     ·rcases hc2 with hc2|hc2
      ·-- x calls,y reads
       obtain⟨⟨v',hv'⟩,q,hop,_,hre⟩:=qbd hc2 oy
       cases hv'
       have hkf:qbo s.heap fx:=qcp hkeep ox
       have h9:=ask.ld (by show qak ops y (setT s.tmps x.dst vx)=_;rw[qau ry];exact wy) q hop
       have e9:qab q (setT s.tmps x.dst vx)=qab q s.tmps:=qae (fun t ht=>ry t (sub y t ht)) (qeu hop)
       simp only[e9]at h9
       refine⟨hre _ (fun b hb=> ?_),ox,rfl,rfl,ax⟩
       have hlt:=qfx h9 hb
       have hnd:b∉fx.dirt:=by
        rcases rdAsk_d h9 hb with h|h
        ·exact fun hm=>h (List.mem_append_left _ hm)
        ·rw[hay qcx (by simp[qcx,hx4])]at h;cases h
       exact(hkf.2 b (by omega) hnd).symm
      ·have hmk:¬(isMk y=true∧isCt x=true):=fun h=>hnct ⟨h.2,isMk_ct hc2 h.1⟩
       have hfxs:=same4 (.inr ⟨hx4,(by rw[hc2];decide),hmk⟩)
       subst hfxs
       have:fy= .same:=by
        cases hfs:fy.isSame with
        |true=>cases fy with
         |same=>rfl
         |heap=>simp[Eff.isSame]at hfs
        |false=>
         exfalso
         have hmk2:¬(isMk x=true∧isCt y=true):=fun h=>hnct ⟨isMk_ct hx4 h.1,h.2⟩
         rcases ask.c4 hc2 with h|h|h
         ·rw[hfs]at h;cases h
         ·rw[hsy hx0]at h;cases h
         ·rw[hfy hx0 (by rw[hx4];decide) hmk2]at h;cases h
       subst this
       exact⟨oy,ox,rfl,rfl,ax⟩
    ·-- x reads,y makes
     obtain⟨⟨v',hv'⟩,q,hop,hst,hre⟩:=qbd hc1 ox
     cases hv'
     have hm:=ql4 hc2 oy
     refine⟨oy,hre _ (fun b hb=> ?_),rfl,rfl,?_⟩
     ·obtain⟨x0,hx9,hor⟩:=hst b hb
      have hlt:=(wh.1 hx9).1
      rcases hor with⟨off,n,hmp⟩|hR
      ·refine(hm.2 b hlt).2.2 ?_
       cases h:qed y with
       |false=>rfl
       |true=>
        have h9:=ax
        unfold askD at h9
        rw[hc1]at h9
        simp only[hop,hmp]at h9
        have:=qlq h9
        rw[hax qed h]at this;cases this
      ·have g9:(fy.of s.heap)[b]? =some x0:=(hm.2 b hlt).1 x0 hx9 hR
       rw[g9];exact hx9.symm
     ·exact ax' (fun h2=>by rw[hc1]at h2;cases h2)
    ·-- x makes,y reads
     obtain⟨⟨v',hv'⟩,q,hop,hst,hre⟩:=qbd hc2 oy
     cases hv'
     have hm:=ql4 hc1 ox
     refine⟨hre _ (fun b hb=> ?_),ox,rfl,rfl,ax⟩
     obtain⟨x0,hx9,hor⟩:=hst b hb
     have hask:=askS.ld wy q hop
     have hlt:=qfx hask hb
     rcases hor with⟨off,n,hmp⟩|hR
     ·refine((hm.2 b (by omega)).2.2 ?_).symm
      cases h:qed x with
      |false=>rfl
      |true=>
       rw[hmp]at hask
       have:=qlq hask
       rw[hay qed h]at this;cases this
     ·rw[hx9];exact(hm.2 b (by omega)).2.1 x0 hx9 hR
    ·-- x reads,y writes elsewhere
     obtain⟨⟨v',hv'⟩,q,hop,_,hre⟩:=qbd hc1 ox
     cases hv'
     have hnd:=hdx q
     obtain⟨t2,a2,x2,b2,X2,hop2,hp2,rfl,rfl,_,hre2⟩:=qfk hc2 oy
     refine⟨oy,hre _ (fun b hb=> ?_),rfl,rfl,ax' (fun h2=>by rw[hc1]at h2;cases h2)⟩
     have hne:b2≠b:=fun e=>hnd b hop hb (by simp[Eff.dirt,e])
     show(s.heap.set b2 X2)[b]? =_
     rw[wg hne]
    ·-- x calls and changes nothing,y makes
     have hy2:cls y=2:=by
      unfold isNew at hnew
      split at hnew
      ·rename_i h2;unfold cls;rw[h2]
      ·rename_i h2;unfold cls;rw[h2]
      ·cases hnew
     have hfxs:=same4 (.inr ⟨hc1,by rw[hy2];decide,fun h=>by rw[h.2]at hnct;cases hnct⟩)
     subst hfxs
     obtain⟨b,hb⟩:=opA_new hnew oy
     have hb:fy.of s.heap=s.heap++[b]:=hb
     refine⟨oy,?_,rfl,rfl,ax' (fun h2=>by rw[hc1]at h2;cases h2)⟩
     rw[hb]
     exact qoh hkeep hc1 ox
   obtain⟨k1,k2,k3,k4,k6⟩:=key
   refine⟨⟨setT s.tmps y.dst vy,fy.of s.heap,fy.dirt++s.dirty⟩,⟨y,hy,.inl ⟨wy,vy,k1,rfl⟩⟩,?_,askS⟩
   unfold qat
   simp only[hx,qau rx,wx,qd8 (fun t ht=>rx t (sub x t ht)),k2]
   rw[if_pos (qfl (s:=⟨s.tmps,fy.of s.heap,s.dirty⟩) (s':=⟨setT s.tmps y.dst vy,fy.of s.heap,fy.dirt++s.dirty⟩) (fun t ht=>rx t (sub x t ht)) (fun _ h=>h) lq (fun a b ha hb hn=> .inr fun hm=>by
    rcases List.mem_append.1 hm with hm|hm
    ·exact hdx a b ha hb hm
    ·exact hn hm) k6)]
   rw[k3,k4,comm]
  ·simp only at wy
   rw[qau ry]at wy
   refine⟨⟨setT s.tmps y.dst .undef,s.heap,s.dirty⟩,⟨y,hy,.inr ⟨wy,rfl,rfl⟩⟩,?_,askS⟩
   unfold qat
   simp only[hx,qau rx,wx,qd8 (fun t ht=>rx t (sub x t ht)),ox]
   rw[if_pos (qfl (s:=s) (s':=⟨setT s.tmps y.dst .undef,s.heap,s.dirty⟩) (fun t ht=>rx t (sub x t ht)) (fun _ h=>h) lq (fun _ _ _ _ hn=> .inr hn) ax),comm]
 ·rcases c2 with⟨wy,vy,oy,rfl⟩|⟨wy,rfl,rfl⟩
  ·simp only at wy oy
   rw[qau ry]at wy
   rw[qd8 (fun t ht=>ry t (sub y t ht))]at oy
   refine⟨⟨setT s.tmps y.dst vy,fy.of s.heap,fy.dirt++s.dirty⟩,⟨y,hy,.inl ⟨wy,vy,oy,rfl⟩⟩,?_,askS⟩
   unfold qat
   simp only[hx,qau rx,wx,comm]
  ·simp only at wy
   rw[qau ry]at wy
   refine⟨⟨setT s.tmps y.dst .undef,s.heap,s.dirty⟩,⟨y,hy,.inr ⟨wy,rfl,rfl⟩⟩,?_,askS⟩
   unfold qat
   simp only[hx,qau rx,wx,comm]
end Go.Ab
