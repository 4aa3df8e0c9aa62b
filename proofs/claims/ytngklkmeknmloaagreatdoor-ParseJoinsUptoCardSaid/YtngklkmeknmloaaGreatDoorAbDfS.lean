/- Functions that put a call off, step by step. -/
import Derived.Test.YtngklkmeknmloaaGreatDoorAbDf
import Derived.Test.YtngklkmeknmloaaGreatDoorAbSim
set_option linter.unusedSimpArgs false
set_option linter.unusedVariables false
set_option maxRecDepth 100000
set_option maxHeartbeats 4000000
open Bool renaming and_eq_true→wa
namespace Go.Ab
variable {P:Program} {cmp:List TypeId} {call:Call} {lp:Lp}
def qo2:Code→Bool
 | .region _ ops false=>ops.toList.all fun o=>(qts o).isNone
 | .seq a b=>qo2 a && qo2 b
 |_=>true
theorem qyv (ops:List Oper):∀(l:List Oper),(l.all fun o=>(qts o).isNone)=true→∀(s:St) (x:AEx×St),opsA P cmp call ops l s=some x→opsF P cmp call ops l s=some (x.1,x.2,none)
 |[],_,s,x,e=>by cases e;rfl
 |o::r,h,s,x,e=>by
  simp only[List.all_cons,wa]at h
  have ho:qts o=none:=by simpa using h.1
  unfold opsA at e
  unfold opsF
  simp only[ho]
  split at e
  ·rename_i hw
   simp only[hw]
   split at e
   ·rename_i v f hv;simp only[hv];exact qyv ops r h.2 _ x e
   ·rename_i v f hv;simp only[hv];cases e;rfl
   ·cases e
  ·rename_i hw
   simp only[hw]
   exact qyv ops r h.2 _ x e
  ·cases e
theorem codeF_of:∀(c:Code) (s:St) (x:AEx×St),qo2 c=true→qa3 P cmp call lp c s=some x→qlt x=true→qcn P cmp call lp c s=some (x.1,x.2,none):=by
 intro c
 induction c with
 |region id ops draw=>
  intro s x h e ht
  cases draw with
  |false=>exact qyv _ _ h s x e
  |true=>simp only[qcn,e,ht,if_true]
 |seq a b iha ihb=>
  intro s x h e ht
  simp only[qo2,wa]at h
  simp only[qa3]at e
  split at e
  ·rename_i s1 h1
   have:=iha s _ h.1 h1 rfl
   simp only[qcn,this]
   exact ihb s1 x h.2 e ht
  ·rename_i hn
   have:=iha s x h.1 e ht
   simp only[qcn,this]
   obtain⟨ex,sx⟩:=x
   cases ex with
   |normal=>exact(hn sx e).elim
   |_=>rfl
 |_=>intro s x h e ht;simp only[qcn,e,ht,if_true]
theorem qzy {c:Code} (hd:qct c=true) (hn:qo2 c=true) {s:St} {x:AEx×St} (e:qam P cmp call lp c s=some x) (ht:qlt x=true):qcn P cmp call lp c s=some (x.1,x.2,none):=
 codeF_of c s x hn (by rw[qio c s hd];exact e) ht
theorem codeF_seq {a b:Code} {s s1:St} (h:qcn P cmp call lp a s=some (.normal,s1,none)):qcn P cmp call lp (.seq a b) s=qcn P cmp call lp b s1:=by
 simp only[qcn,h]
theorem codeF_def {a b:Code} (hd:qct b=true) {s s1:St} {v:AVal} {x:AEx×St} (h:qcn P cmp call lp a s=some (.normal,s1,some v)) (e:qam P cmp call lp b s1=some x) (ht:qlt x=true):qcn P cmp call lp (.seq a b) s=some (x.1,x.2,some v):=by
 simp only[qcn,h]
 rw[qio b s1 hd,e]
 simp only[ht,if_true]
theorem fnF_def {f:FuncId} {fn:Func} {c:Code} (hf:P.funcs[f]? =some fn) (hb:fn.body=some c) {args:List AVal} {h:qab} {s5:St} {g:FuncId} {fi ca:List AVal} {ex:AEx} (hex:ex= .ret∨ex= .normal)
 (e:qcn P cmp call lp c ⟨args++List.replicate (fn.ntmps-args.length) .undef,h,[]⟩=some (ex,s5,some (.func g fi ca))) {s6:St} (hr:runF P cmp call lp g (fi++ca) none s5.heap=some s6):
 fnF P cmp call lp f args h=endF P fn h ⟨s5.tmps,s6.heap,s6.dirty++s5.dirty⟩:=by
 unfold fnF
 simp only[hf,hb,e]
 rcases hex with rfl|rfl<;>simp only[hr]
theorem fnF_pan {f:FuncId} {fn:Func} {c:Code} (hf:P.funcs[f]? =some fn) (hb:fn.body=some c) {args:List AVal} {h:qab} {s5:St} {g:FuncId} {fi ca:List AVal} {v:AVal}
 (e:qcn P cmp call lp c ⟨args++List.replicate (fn.ntmps-args.length) .undef,h,[]⟩=some (.pan v,s5,some (.func g fi ca))) {s6:St} (hr:runF P cmp call lp g (fi++ca) (some v) s5.heap=some s6):
 fnF P cmp call lp f args h=endF P fn h ⟨s5.tmps,s6.heap,s6.dirty++s5.dirty⟩:=by
 unfold fnF
 simp only[hf,hb,e,hr]
theorem fnF_early {f:FuncId} {fn:Func} {c:Code} (hf:P.funcs[f]? =some fn) (hb:fn.body=some c) {args:List AVal} {h:qab} {s5:St} {ex:AEx} (hex:ex= .ret∨ex= .normal)
 (e:qcn P cmp call lp c ⟨args++List.replicate (fn.ntmps-args.length) .undef,h,[]⟩=some (ex,s5,none)):
 fnF P cmp call lp f args h=endF P fn h s5:=by
 unfold fnF
 simp only[hf,hb,e]
 rcases hex with rfl|rfl<;>rfl
theorem qyw {g:FuncId} {fn:Func} {id:Nat} {ops:Array Oper} {rest:Code} {o:Oper} {r:List Oper} (hf:P.funcs[g]? =some fn) (hb:fn.body=some (.seq (.region id ops false) rest)) (ho:ops.toList=o::r) (hk:(isRec o && fn.results.isEmpty)=true) (hd:qct rest=true)
 {args:List AVal} {mv:Option AVal} {h:qab} {s1 s2:St} {m:Nat} (hm:fn.ntmps-args.length=m) (h1:opsB P cmp call false 0 (o::r) 1 r ⟨setT (args++List.replicate m .undef) o.dst (match mv with|some v=>v|none=> .nili),h,[]⟩=some (.normal,s1))
 (h2:qam P cmp call lp rest s1=some (.normal,s2)):runF P cmp call lp g args mv h=some s2:=by
 subst hm
 unfold runF
 rw[qkj]at h1
 rw[qio rest s1 hd|>.symm]at h2
 cases mv<;>(simp only[hf,hb,ho,hk,if_true]at h1 ⊢;simp only[h1,h2])
theorem q5l {a b:Code} (hd:qct a=true) (hn:qo2 a=true) {s:St} {X:Option (AEx×St×Option AVal)} (h:∃s1,qam P cmp call lp a s=some (.normal,s1)∧qcn P cmp call lp b s1=X):qcn P cmp call lp (.seq a b) s=X:=by
 obtain⟨s1,h1,h2⟩:=h
 rw[codeF_seq (qzy hd hn h1 rfl)];exact h2
theorem codeF_ret {a b:Code} (hd:qct a=true) (hn:qo2 a=true) {s s1:St} (h1:qam P cmp call lp a s=some (.ret,s1)):qcn P cmp call lp (.seq a b) s=some (.ret,s1,none):=by
 have:=qzy hd hn h1 rfl
 simp only[qcn,this]
theorem fnF_go {f:FuncId} {fn:Func} {c:Code} (hf:P.funcs[f]? =some fn) (hb:fn.body=some c) {args:List AVal} {h:qab} {X:Option CR} {m:Nat} (hm:fn.ntmps-args.length=m) {tm:List AVal} {H5:qab} {d:List Nat} {g:FuncId} {fi ca:List AVal} {s6:St}
 (h1:qcn P cmp call lp c ⟨args++List.replicate m .undef,h,[]⟩=some (.ret,⟨tm,H5,d⟩,some (.func g fi ca))) (h2:runF P cmp call lp g (fi++ca) none H5=some s6) (h3:endF P fn h ⟨tm,s6.heap,s6.dirty++d⟩=X):
 fnF P cmp call lp f args h=X:=by
 subst hm
 rw[fnF_def hf hb (.inl rfl) h1 h2];exact h3
theorem qfr {a b:Code} (hd:qct a=true) (hn:qo2 a=true) {s s1:St} {X:Option (AEx×St×Option AVal)} (h1:qam P cmp call lp a s=some (.normal,s1)) (h2:qcn P cmp call lp b s1=X):qcn P cmp call lp (.seq a b) s=X:=q5l hd hn ⟨s1,h1,h2⟩
theorem qv8 {a b:Code} (hd:qct b=true) {s s1:St} {v:AVal} {x:AEx×St} (h:qcn P cmp call lp a s=some (.normal,s1,some v)) (e:qam P cmp call lp b s1=some x) {y:AEx×St×Option AVal} (hy:y=(x.1,x.2,some v)) (ht:qlt x=true):qcn P cmp call lp (.seq a b) s=some y:=by subst hy;exact codeF_def hd h e ht
end Go.Ab
