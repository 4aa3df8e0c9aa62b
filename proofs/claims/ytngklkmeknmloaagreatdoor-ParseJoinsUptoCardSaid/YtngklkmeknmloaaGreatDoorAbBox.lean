/- The seat's calls: which heap is left. -/
import Derived.Test.YtngklkmeknmloaaGreatDoorAbSim
import Derived.Test.YtngklkmeknmloaaGreatDoorAbEqs
import Derived.Test.YtngklkmeknmloaaGreatDoorAbBase
set_option linter.unusedSimpArgs false
set_option linter.unusedVariables false
set_option maxRecDepth 100000
set_option maxHeartbeats 4000000
open List renaming getElem?_eq_none→wa,getElem?_set_ne→wb,getD_eq_getElem?_getD→wc,ext_getElem?→wd,getElem?_eq_some_iff→we,getElem?_take_of_lt→wf,getElem?_set_self→wg,mem_filter→wi,map_cons→wj,map_nil→wk
open Option renaming getD_some→wh
open Nat renaming le_refl→wm
namespace Go.Ab
theorem qos {call:Call} {h:qab} {g:FuncId} {args:List AVal} {v:AVal} (idx:List Nat) (hidx:qbv h 256 (qad args) []=idx) (hok:qc2 h idx args=true)
 (e:call g (renL (fun x=>idx.idxOf x) args) (subH h idx)=some (.ret v .same)) (hv:refs v=[]):qai call h g args=some (.ret v .same):=by
 unfold qai
 simp only[hidx]
 rw[if_pos hok,e]
 simp only[qge]
 rw[qfc v (by rw[hv];simp)]
theorem qbd {call:Call} {H:qab} {g:FuncId} {b:Nat} {cs:List AVal} {v:AVal} (args:List AVal) (ha:qad args=[b]) (hb:H[b]? =some (.box cs)) (hcs:qad cs=[])
 (e:call g (renL (fun _=>0) args) [.box cs]=some (.ret v .same)) (hv:refs v=[]):qai call H g args=some (.ret v .same):=by
 refine qos [b] ?_ ?_ ?_ hv
 ·rw[ha];simp[qbv,hb,hcs]
 ·unfold qc2;simp[ha,hb,qdq,hcs]
 ·have h1:renL (fun x=>List.idxOf x [b]) args=renL (fun _=>0) args:=by
   refine qgl args (fun x hx=> ?_)
   rw[ha]at hx
   simp only[List.mem_cons,List.not_mem_nil,or_false]at hx
   subst hx;simp
  rw[h1]
  have h2:subH H [b]=[.box cs]:=by
   simp only[subH,wj,wk,wc,hb,wh,renB]
   rw[qco cs (by rw[hcs];simp)]
  rw[h2];exact e
def AtD (n:Nat) (junk:List Nat) (ts0:List AVal) (H0:qab) (w:List (Nat×AVal)) (s:St):Prop:=At junk ts0 H0 w s∧∀x∈s.dirty,n≤x
theorem AtD.elim {n:Nat} {junk:List Nat} {ts0:List AVal} {H0:qab} {w:List (Nat×AVal)} {s:St} (h:AtD n junk ts0 H0 w s):
 ∃(j:Nat→AVal) (H:qab) (d:List Nat),(∀x∈d,n≤x)∧s=⟨upd (w++junk.map fun k=>(k,j k)) ts0,H0++H,d⟩:=⟨_,_,s.dirty,h.2,h.1⟩
def RoundD {α R:Type} (n:Nat) (junk:List Nat) (ts0:List AVal) (H0:qab) (w:α→List (Nat×AVal)) (I:α→Prop) (μ:α→Nat) (den:α→R) (Post:R→AEx→St→Prop) (a:α) (r:Option (AEx×St)):Prop:=
 (∃a' s',r=some (.normal,s')∧I a'∧AtD n junk ts0 H0 (w a') s'∧μ a'<μ a∧den a'=den a)∨
 (∃ex s',r=some (ex,s')∧(∀s1:St,(ex,s')≠(AEx.normal,s1))∧Post (den a) ex s')
theorem qp0 {α R:Type} (n:Nat) {f:St→Option (AEx×St)} {ts0:List AVal} {H0:qab} {d0:List Nat} {r:Option (AEx×St)} (hl:lpC f ⟨ts0,H0,d0⟩=r)
 (junk:List Nat) (w:α→List (Nat×AVal)) (I:α→Prop) (μ:α→Nat) (den:α→R) (Post:List AVal→qab→R→AEx→St→Prop) (a0:α) (h0:I a0)
 (hw:AtD n junk ts0 H0 (w a0) ⟨ts0,H0,d0⟩)
 (hs:∀a (j:Nat→AVal) H d,I a→(∀x∈d,n≤x)→RoundD n junk ts0 H0 w I μ den (Post ts0 H0) a (f ⟨upd (w a++junk.map fun k=>(k,j k)) ts0,H0++H,d⟩)):
 ∃ex s',r=some (ex,s')∧Post ts0 H0 (den a0) ex s':=by
 subst hl
 refine qtt μ den (fun a s=>I a∧AtD n junk ts0 H0 (w a) s) (Post ts0 H0) ?_ (μ a0) a0 _ (wm _) ⟨h0,hw⟩
 rintro a s ⟨hi,ha⟩
 obtain⟨j,H,d,hd,rfl⟩:=ha.elim
 rcases hs a j H d hi hd with⟨a',s',h1,h2,h3,h4,h5⟩|h
 ·exact .inl ⟨a',s',h1,⟨h2,h3⟩,h4,h5⟩
 ·exact .inr h
theorem qa0 (n:Nat) (v:AVal) (h:qab) (d:List Nat) (hd:∀x∈d,n≤x) (hr:refs (strip3 v)=[]):qbg n v h d=(strip3 v,.same):=by
 have hd':d.filter (· <n)=[]:=by
  rw[List.filter_eq_nil_iff]
  intro x hx
  have:=hd x hx
  simp;omega
 unfold qbg
 simp only[hd',qgf]
 rw[if_pos (by unfold lowA;rw[hr];rfl)]
end Go.Ab
namespace Go.Ab
def qbi (c:Call) (f:FuncId) (args:List AVal) (h:qab) (v:AVal) (h':qab):Prop:=∃e:Eff,c f args h=some (.ret v e)∧e.of h=h'
def qih (n:Nat) (h:qab) (b:Nat):Prop:=∃x,h[b]? =some x∧∀mv,qg5 n h b mv=some (x,mv)
theorem qp1 (n:Nat) (h:qab) (hs:∀b,b<n→qih n h b):∀(d:List Nat) (mv:List Nat),(∀b∈d,b<n)→qf1 n h d (h.take n) mv=some (h.take n,mv)
 |[],mv,_=>rfl
 |b::r,mv,hd=>by
  obtain⟨x,hx,hl⟩:=hs b (hd b (by simp))
  simp only[qf1,hl]
  have:(h.take n).set b x=h.take n:=by
   apply wd
   intro i
   by_cases hi:b=i
   ·subst hi
    have hb:=hd b (by simp)
    rw[List.getElem?_set_self',wf hb,hx]
    rfl
   ·rw[wb hi]
  rw[this]
  exact qp1 n h hs r mv (fun c hc=>hd c (by simp[hc]))
theorem qo8 {n:Nat} {v:AVal} {h0 h:qab} {d:List Nat} (hn:h0.length=n) (hk:KeepH h0 h d) (hv:lowA n (strip3 v)=true) (hs:∀b,b<n→qih n h b):
 (qbg n v h d).1=strip3 v∧(qbg n v h d).2.of h0=h.take n:=by
 have hlt:∀b∈qgf (d.filter (· <n)),b<n:=fun b hb=>by
  have:=qim.1 hb
  simpa using(wi.1 this).2
 unfold qbg
 simp only[hv,if_true]
 split
 ·rename_i he
  refine⟨rfl,?_⟩
  simp only[Eff.of]
  apply wd
  intro i
  by_cases hi:i<n
  ·rw[wf hi]
   refine(hk.2 i (by omega) (fun hm=> ?_)).symm
   have:i∈qgf (d.filter (· <n)):=qim.2 (wi.2 ⟨hm,by simpa using hi⟩)
   rw[he]at this
   cases this
  ·rw[wa (by omega),wa (by rw[List.length_take];omega)]
 ·rw[qp1 n h hs _ [] hlt]
  refine⟨rfl,?_⟩
  simp[Eff.of]
def finE0 (P:Program) (n:Nat) (rs:List ResultVar) (v:AVal) (h1:qab):Option (AEx×St)→Prop
 |some (.normal,s)|some (.ret,s)=>∃vs,resA P rs s=some vs∧∀h0:qab,h0.length=n→KeepH h0 s.heap s.dirty→(qbg n (qb5 vs) s.heap s.dirty).1=v∧(qbg n (qb5 vs) s.heap s.dirty).2.of h0=h1
 |_=>False
structure finE (P:Program) (n:Nat) (rs:List ResultVar) (v:AVal) (h1:qab) (r:Option (AEx×St)):Prop where
 out:finE0 P n rs v h1 r
theorem q1k {P:Program} {cmp:List TypeId} {ext:Ext} (hkeep:qa4 (evC P cmp ext)) {f:FuncId} {fn:Func} {c:Code} (hx:ext f=none) (hf:P.funcs[f]? =some fn) (hb:fn.body=some c) (hd:qct c=true) {a:List AVal} {h:qab} {m:Nat} (hm:fn.ntmps-a.length=m) {v:AVal} {h1:qab}
 (e:finE P h.length fn.results.toList v h1 (qam P cmp (evC P cmp ext) lpC c ⟨a++List.replicate m .undef,h,[]⟩)):qbi (evC P cmp ext) f a h v h1:=by
 subst hm
 replace e:=e.out
 have hc:=qst (cmp:=cmp) hx hf hb hd a h
 rw[←qio c _ hd]at e
 rw[←qio c _ hd]at hc
 cases hr:qa3 P cmp (evC P cmp ext) lpC c ⟨a++List.replicate (fn.ntmps-a.length) .undef,h,[]⟩with
 |none=>rw[hr]at e;exact e.elim
 |some x=>
  obtain⟨ex,s⟩:=x
  have hk:=(qd5 hkeep qnv _ _ _ hr).1
  rw[hr]at e hc
  cases ex with
  |normal=>
   obtain⟨vs,h2,h3⟩:=e
   obtain⟨h4,h5⟩:=h3 h rfl hk
   refine⟨_,?_,h5⟩
   rw[hc];simp only[fin,h2,h4]
  |ret=>
   obtain⟨vs,h2,h3⟩:=e
   obtain⟨h4,h5⟩:=h3 h rfl hk
   refine⟨_,?_,h5⟩
   rw[hc];simp only[fin,h2,h4]
  |exit=>exact e.elim
  |pan=>exact e.elim
theorem qcy {P:Program} {n:Nat} {rs:List ResultVar} {v:AVal} {h1:qab} {s:St} {ex:AEx} {vs:List AVal} (hex:ex= .ret∨ex= .normal) (hr:resA P rs s=some vs) (hv:strip3 (qb5 vs)=v) (hl:lowA n v=true)
 (hs:∀b,b<n→qih n s.heap b) (hh:s.heap.take n=h1):finE P n rs v h1 (some (ex,s)):=by
 subst hv;subst hh
 rcases hex with rfl|rfl
 ·exact⟨⟨vs,hr,fun h0 hn hk=>qo8 hn hk hl hs⟩⟩
 ·exact⟨⟨vs,hr,fun h0 hn hk=>qo8 hn hk hl hs⟩⟩
def Pans (c:Call) (f:FuncId) (args:List AVal) (h:qab) (v:AVal):Prop:=∃e:Eff,c f args h=some (.pan v e)
structure finP (v:AVal) (r:Option (AEx×St)):Prop where
 out:∃s,r=some (.pan v,s)
theorem leave_val (n:Nat) (v:AVal) (h:qab) (d:List Nat):(qbg n v h d).1=strip3 v:=by
 unfold qbg
 simp only
 split
 ·split
  ·rfl
  ·split<;>rfl
 ·rfl
theorem q3m {P:Program} {cmp:List TypeId} {ext:Ext} {f:FuncId} {fn:Func} {c:Code} (hx:ext f=none) (hf:P.funcs[f]? =some fn) (hb:fn.body=some c) (hd:qct c=true) {a:List AVal} {h:qab} {m:Nat} (hm:fn.ntmps-a.length=m) {v:AVal} (hv:strip3 v=v)
 (e:finP v (qam P cmp (evC P cmp ext) lpC c ⟨a++List.replicate m .undef,h,[]⟩)):Pans (evC P cmp ext) f a h v:=by
 subst hm
 obtain⟨s,e⟩:=e.out
 have hc:=qst (cmp:=cmp) hx hf hb hd a h
 rw[e]at hc
 refine⟨(qbg h.length v s.heap s.dirty).2,?_⟩
 rw[hc]
 simp only[fin,leave_val,hv]
theorem qah {v:AVal} {s:St}:finP v (some (.pan v,s)):=⟨⟨s,rfl⟩⟩
theorem q47 (pk:Bool) (ask:Eff→Bool) (v:AVal) (f:Eff) (d:Option Tmp) (ts:List AVal) (h:qab) (dd:List Nat) (k:St→Option (AEx×St)):qff false pk ask (some (.pan v f)) d ⟨ts,h,dd⟩ k=some (.pan v,⟨ts,f.of h,f.dirt++dd⟩):=rfl
theorem q48 (pk:Bool) (ask:Eff→Bool) (v:AVal) (f:Eff) (d:Option Tmp) (ts:List AVal) (h:qab) (dd:List Nat) (k:St→Option (AEx×St)):qff true pk ask (some (.pan v f)) d ⟨ts,h,dd⟩ k=ifB pk (some (.pan v,⟨[],f.of h,f.dirt++dd⟩)):=by cases pk<;>rfl
theorem qiq {b:Bool} {x:Option (AEx×St)} (h:b=true):ifB b x=x:=by subst h;rfl
abbrev pans:=Ji @q47 @q48
theorem qm4 {c:Call} {H:qab} {f:FuncId} {args:List AVal} {v:AVal} (idx:List Nat) (hidx:qbv H 256 (qad args) []=idx) (hok:qc2 H idx args=true)
 (g:Pans c f (renL (fun x=>idx.idxOf x) args) (subH H idx) v) (hv:refs v=[]):∃e:Eff,qai c H f args=some (.pan v e):=by
 obtain⟨e,h2⟩:=g
 refine⟨qge H idx e,?_⟩
 unfold qai
 simp only[hidx]
 rw[if_pos hok,h2]
 simp only
 rw[qfc v (by rw[hv];simp)]
theorem At.of {junk:List Nat} {ts0:List AVal} {H0:qab} {w:List (Nat×AVal)} {s:St} (T:qab) (h1:s.tmps=upd (w++junk.map fun k=>(k,s.tmps.getD k .undef)) ts0) (h2:s.heap=H0++T):At junk ts0 H0 w s:=by
 obtain⟨a,b,c⟩:=s
 simp only at h1 h2
 subst h2
 unfold At
 simp only[List.drop_left]
 rw[←h1]
theorem stepB_eff (pk:Bool) (ask:Eff→Bool) (v:AVal) (f:Eff) (d:Tmp) (ts:List AVal) (h:qab) (dd:List Nat) (k:St→Option (AEx×St)):qff false pk ask (some (.val v f)) (some d) ⟨ts,h,dd⟩ k=k ⟨ts.set d v,f.of h,f.dirt++dd⟩:=rfl
theorem q49 (pk:Bool) (ask:Eff→Bool) (v:AVal) (f:Eff) (ts:List AVal) (h:qab) (dd:List Nat) (k:St→Option (AEx×St)):qff false pk ask (some (.val v f)) none ⟨ts,h,dd⟩ k=k ⟨ts,f.of h,f.dirt++dd⟩:=rfl
theorem dirt_same:Eff.dirt .same=[]:=rfl
theorem qzg (h:qab) (d:List Nat):Eff.dirt (.heap h d)=d:=rfl
theorem stepD_eff (pk:Bool) (ask:Eff→Bool) (v:AVal) (f:Eff) (d:Tmp) (ts:List AVal) (h:qab) (dd:List Nat) (k:St→Option (AEx×St)):qff true pk ask (some (.val v f)) (some d) ⟨ts,h,dd⟩ k=ifB (ask f) (k ⟨ts.set d v,f.of h,f.dirt++dd⟩):=rfl
theorem q5a (pk:Bool) (ask:Eff→Bool) (v:AVal) (f:Eff) (ts:List AVal) (h:qab) (dd:List Nat) (k:St→Option (AEx×St)):qff true pk ask (some (.val v f)) none ⟨ts,h,dd⟩ k=ifB (ask f) (k ⟨ts,f.of h,f.dirt++dd⟩):=rfl
abbrev effs:=Ji @stepB_eff (Ji @q49 (Ji @stepD_eff (Ji @q5a (Ji @dirt_same @qzg))))
theorem qcr {b:Bool} {af:List Edge} {ts:List AVal} {d:List Nat} {j:Nat} {ops:List Oper} {x:Option (AEx×St)} (h1:qjd ops j=true) (h2:qaj af ts d 0 j ops=true):ifB (askC b (callU af ts d j ops)) x=x:=by
 unfold askC callU
 rw[h1,h2]
 simp[ifB]
def qnz (c:Call) (H:qab) (f:FuncId) (args:List AVal) (v:AVal) (H2:qab):Prop:=∃e:Eff,qai c H f args=some (.ret v e)∧e.of H=H2
theorem qjk {c:Call} (hkeep:qa4 c) {H:qab} {f:FuncId} {args:List AVal} {v:AVal} {h1 H2:qab} (idx:List Nat) (hidx:qbv H 256 (qad args) []=idx) (hnd:idx.Nodup) (hok:qc2 H idx args=true)
 (g:qbi c f (renL (fun x=>idx.idxOf x) args) (subH H idx) v h1) (hv:refs v=[]) (hb:∀H',BackH H idx h1 H'→H'=H2):qnz c H f args v H2:=by
 obtain⟨e,h2,h3⟩:=g
 refine⟨qge H idx e,?_,hb _ ?_⟩
 ·unfold qai
  simp only[hidx]
  rw[if_pos hok,h2]
  simp only
  rw[qfc v (by rw[hv];simp)]
 ·rw[←h3]
  exact qju (qla hnd hok).1 (hkeep _ _ _ _ h2).1
theorem qbs {cs:List AVal} (h:qad cs=[]) (σ:Nat→Nat):renL σ cs=cs:=qco cs (by rw[h];simp)
theorem qzh {c:Call} (hkeep:qa4 c) {H:qab} {f:FuncId} {args:List AVal} {v:AVal} {b1 b2:Nat} {x0 x1 y0 y1:List AVal} (ha:qad args=[b1,b2]) (hne:b1≠b2) (h1:H[b1]? =some (.box x0)) (h2:H[b2]? =some (.box x1))
 (px0:qad x0=[]) (px1:qad x1=[]) (py0:qad y0=[]) (py1:qad y1=[])
 (g:qbi c f (renL (fun x=>[b1,b2].idxOf x) args) [.box x0,.box x1] v [.box y0,.box y1]) (hv:refs v=[]):
 qnz c H f args v ((H.set b1 (.box y0)).set b2 (.box y1)):=by
 have l1:=(we.1 h1).1
 have l2:=(we.1 h2).1
 refine qjk hkeep [b1,b2] ?_ (by simp[hne]) ?_ (?_:qbi c f _ (subH H [b1,b2]) v [.box y0,.box y1]) hv ?_
 ·rw[ha];simp[qbv,h1,h2,px0,px1,hne.symm]
 ·unfold qc2;simp[ha,h1,h2,qdq,px0,px1]
 ·have:subH H [b1,b2]=[.box x0,.box x1]:=by
   simp only[subH,wj,wk,wc,h1,h2,wh,renB,qbs px0,qbs px1]
  rw[this];exact g
 ·intro H' k
  apply wd
  intro i
  by_cases e2:b2=i
  ·subst e2
   rw[k.inn 1 b2 rfl,wg (by simpa using l2)]
   simp[renB,qbs py1]
  ·rw[wb e2]
   by_cases e1:b1=i
   ·subst e1
    rw[k.inn 0 b1 rfl,wg l1]
    simp[renB,qbs py0]
   ·rw[wb e1]
    by_cases hi:i<H.length
    ·exact k.out i hi (by simp[Ne.symm e1,Ne.symm e2])
    ·have e3:([Blk.box y0,Blk.box y1]:List Blk)[[b1,b2].length+(i-H.length)]? =none:=wa (by simp)
     have e4:H[i]? =none:=wa (by omega)
     rw[k.new i (by omega),e3,e4]
     rfl
theorem qes {α R:Type} {f:St→Option (AEx×St)} {ts0:List AVal} {H0:qab} {d0:List Nat} {r:Option (AEx×St)} (hl:lpC f ⟨ts0,H0,d0⟩=r)
 (junk:List Nat) (w:α→List (Nat×AVal)) (hp:α→qab) (I:α→Prop) (μ:α→Nat) (den:α→R) (Post:List AVal→R→AEx→St→Prop) (a0:α) (h0:I a0)
 (hw:At junk ts0 (hp a0) (w a0) ⟨ts0,H0,d0⟩)
 (hs:∀a (j:Nat→AVal) H d,I a→
  (∃a' s',f ⟨upd (w a++junk.map fun k=>(k,j k)) ts0,hp a++H,d⟩=some (.normal,s')∧I a'∧At junk ts0 (hp a') (w a') s'∧μ a'<μ a∧den a'=den a)∨
  (∃ex s',f ⟨upd (w a++junk.map fun k=>(k,j k)) ts0,hp a++H,d⟩=some (ex,s')∧(∀s1:St,(ex,s')≠(AEx.normal,s1))∧Post ts0 (den a) ex s')):
 ∃ex s',r=some (ex,s')∧Post ts0 (den a0) ex s':=by
 subst hl
 refine qtt μ den (fun a s=>I a∧At junk ts0 (hp a) (w a) s) (Post ts0) ?_ (μ a0) a0 _ (wm _) ⟨h0,hw⟩
 rintro a s ⟨hi,ha⟩
 obtain⟨j,H,d,rfl⟩:=ha.elim
 rcases hs a j H d hi with⟨a',s',h1,h2,h3,h4,h5⟩|h
 ·exact .inl ⟨a',s',h1,⟨h2,h3⟩,h4,h5⟩
 ·exact .inr h
end Go.Ab
namespace Go.Ab
open Go Go.Ab.Tab
theorem keepN:∀n,qa4 (evN PP cmp0 ext0 n)
 |0=>fun f args h r e=>by cases e
 |n+1=>fun f args h r e=>by
  unfold evN at e
  split at e
  ·rename_i g hg
   unfold ext0 at hg
   split at hg
   ·cases hg;exact qrz args h r e
   ·split at hg
    ·cases hg;exact qsn args h r e
    ·split at hg
     ·cases hg;exact qpj errT args h r e
     ·split at hg
      ·cases hg;cases e
      ·split at hg
       ·cases hg;cases e
       ·cases hg
  ·exact q0r (keepN n) (qqs n) f args h r e
theorem qaw:qa4 C:=fun f args h r e=>by
 obtain⟨n,hn⟩:=qin e
 exact keepN n f args h r hn
theorem qa6 {f:FuncId} {fn:Func} {c:Code} (hx:ext0 f=none) (hf:PP.funcs[f]? =some fn) (hb:fn.body=some c) (hd:qct c=true) {a:List AVal} {h:qab} {m:Nat} (hm:fn.ntmps-a.length=m) {v:AVal} {h1:qab}
 (e:finE PP h.length fn.results.toList v h1 (qam PP cmp0 C lpC c ⟨a++List.replicate m .undef,h,[]⟩)):qbi C f a h v h1:=q1k qaw hx hf hb hd hm e
theorem qao {f:FuncId} {fn:Func} {c:Code} (hx:ext0 f=none) (hf:PP.funcs[f]? =some fn) (hb:fn.body=some c) (hd:qct c=true) {a:List AVal} {h:qab} {m:Nat} (hm:fn.ntmps-a.length=m) {v:AVal} (hv:strip3 v=v)
 (e:finP v (qam PP cmp0 C lpC c ⟨a++List.replicate m .undef,h,[]⟩)):Pans C f a h v:=q3m hx hf hb hd hm hv e
end Go.Ab
