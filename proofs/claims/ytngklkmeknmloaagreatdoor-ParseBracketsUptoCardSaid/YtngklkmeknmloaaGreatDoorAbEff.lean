/- A printer: a box that holds the words, whose spare room is its own. -/
import Derived.Test.YtngklkmeknmloaaGreatDoorAbEqs
import Derived.Test.YtngklkmeknmloaaGreatDoorAbBox
set_option linter.unusedSimpArgs false
set_option linter.unusedVariables false
set_option maxRecDepth 100000
set_option maxHeartbeats 4000000
open List renaming getElem?_eq_some_iff→wa,getElem?_eq_none→wb,getElem?_append_left→wc,getElem?_take_of_lt→wd,getElem?_set_ne→we,getD_eq_getElem?_getD→wg,ext_getElem?→wh,getElem?_set_self→wi,mem_filter→wj,map_cons→wo,flatMap_append→wq,map_nil→wt,length_append→wu,length_take→wv,idxOf_cons→ww,nil_append→wz,length_nil→w6
open Option renaming getD_some→wk
open Nat renaming le_refl→wm
open Ne renaming symm→w7
namespace Go.Ab
def qbk (c:Call) (f:FuncId) (args:List AVal) (h:qab) (v:AVal) (h':qab):Prop:=∃e:Eff,c f args h=some (.ret v e)∧e.of h=h'
def qib (n:Nat) (h:qab) (b:Nat):Prop:=∃x,h[b]? =some x∧∀mv,qg0 n h b mv=some (x,mv)
theorem qpt (n:Nat) (h:qab) (hs:∀b,b<n→qib n h b):∀(d:List Nat) (mv:List Nat),(∀b∈d,b<n)→qf1 n h d (h.take n) mv=some (h.take n,mv)
 |[],mv,_=>rfl
 |b::r,mv,hd=>by
  obtain⟨x,hx,hl⟩:=hs b (hd b (by simp))
  simp only[qf1,hl]
  have:(h.take n).set b x=h.take n:=by
   apply wh
   intro i
   by_cases hi:b=i
   ·subst hi
    have hb:=hd b (by simp)
    rw[List.getElem?_set_self',wd hb,hx]
    rfl
   ·rw[we hi]
  rw[this]
  exact qpt n h hs r mv (fun c hc=>hd c (by simp[hc]))
theorem qos {n:Nat} {v:AVal} {h0 h:qab} {d:List Nat} (hn:h0.length=n) (hk:KeepH h0 h d) (hv:lowA n (strip3 v)=true) (hs:∀b,b<n→qib n h b):
 (qbf n v h d).1=strip3 v∧(qbf n v h d).2.of h0=h.take n:=by
 have hlt:∀b∈qgg (d.filter (· <n)),b<n:=fun b hb=>by
  have:=qif.1 hb
  simpa using(wj.1 this).2
 unfold qbf
 simp only[hv,if_true]
 split
 ·rename_i he
  refine⟨rfl,?_⟩
  simp only[Eff.of]
  apply wh
  intro i
  by_cases hi:i<n
  ·rw[wd hi]
   refine(hk.2 i (by omega) (fun hm=> ?_)).symm
   have:i∈qgg (d.filter (· <n)):=qif.2 (wj.2 ⟨hm,by simpa using hi⟩)
   rw[he]at this
   cases this
  ·rw[wb (by omega),wb (by rw[wv];omega)]
 ·rw[qpt n h hs _ [] hlt]
  refine⟨rfl,?_⟩
  simp[Eff.of]
def finE0 (P:Program) (n:Nat) (rs:List ResultVar) (v:AVal) (h1:qab):Option (AEx×St)→Prop
 |some (.normal,s)|some (.ret,s)=>∃vs,resA P rs s=some vs∧∀h0:qab,h0.length=n→KeepH h0 s.heap s.dirty→(qbf n (qcb vs) s.heap s.dirty).1=v∧(qbf n (qcb vs) s.heap s.dirty).2.of h0=h1
 |_=>False
structure finE (P:Program) (n:Nat) (rs:List ResultVar) (v:AVal) (h1:qab) (r:Option (AEx×St)):Prop where
 out:finE0 P n rs v h1 r
theorem q1j {P:Program} {cmp:List TypeId} {ext:Ext} (hkeep:qa7 (evC P cmp ext)) {f:FuncId} {fn:Func} {c:Code} (hx:ext f=none) (hf:P.funcs[f]? =some fn) (hb:fn.body=some c) (hd:qcp c=true) {a:List AVal} {h:qab} {m:Nat} (hm:fn.ntmps-a.length=m) {v:AVal} {h1:qab}
 (e:finE P h.length fn.results.toList v h1 (qam P cmp (evC P cmp ext) lpC c ⟨a++List.replicate m .undef,h,[]⟩)):qbk (evC P cmp ext) f a h v h1:=by
 subst hm
 replace e:=e.out
 have hc:=qr8 (cmp:=cmp) hx hf hb hd a h
 rw[←qih c _ hd]at e
 rw[←qih c _ hd]at hc
 cases hr:qa6 P cmp (evC P cmp ext) lpC c ⟨a++List.replicate (fn.ntmps-a.length) .undef,h,[]⟩with
 |none=>rw[hr]at e;exact e.elim
 |some x=>
  obtain⟨ex,s⟩:=x
  have hk:=(qdy hkeep qna _ _ _ hr).1
  rw[hr]at e hc
  cases ex with
  |normal=>
   obtain⟨vs,h2,h3⟩:=e
   obtain⟨h4,h5⟩:=h3 h rfl hk
   refine⟨_,?_,h5⟩
   rw[hc];simp only[fin,h2,h4]
  |ret=>
   obtain⟨vs,h2,h3⟩:=e
   obtain⟨h4,h5⟩:=h3 h rfl hk
   refine⟨_,?_,h5⟩
   rw[hc];simp only[fin,h2,h4]
  |exit=>exact e.elim
  |pan=>exact e.elim
theorem qcv {P:Program} {n:Nat} {rs:List ResultVar} {v:AVal} {h1:qab} {s:St} {ex:AEx} {vs:List AVal} (hex:ex= .ret∨ex= .normal) (hr:resA P rs s=some vs) (hv:strip3 (qcb vs)=v) (hl:lowA n v=true)
 (hs:∀b,b<n→qib n s.heap b) (hh:s.heap.take n=h1):finE P n rs v h1 (some (ex,s)):=by
 subst hv;subst hh
 rcases hex with rfl|rfl
 ·exact⟨⟨vs,hr,fun h0 hn hk=>qos hn hk hl hs⟩⟩
 ·exact⟨⟨vs,hr,fun h0 hn hk=>qos hn hk hl hs⟩⟩
def Pans (c:Call) (f:FuncId) (args:List AVal) (h:qab) (v:AVal):Prop:=∃e:Eff,c f args h=some (.pan v e)
structure finP (v:AVal) (r:Option (AEx×St)):Prop where
 out:∃s,r=some (.pan v,s)
theorem leave_val (n:Nat) (v:AVal) (h:qab) (d:List Nat):(qbf n v h d).1=strip3 v:=by
 unfold qbf
 simp only
 split
 ·split
  ·rfl
  ·split<;>rfl
 ·rfl
theorem q3c {P:Program} {cmp:List TypeId} {ext:Ext} {f:FuncId} {fn:Func} {c:Code} (hx:ext f=none) (hf:P.funcs[f]? =some fn) (hb:fn.body=some c) (hd:qcp c=true) {a:List AVal} {h:qab} {m:Nat} (hm:fn.ntmps-a.length=m) {v:AVal} (hv:strip3 v=v)
 (e:finP v (qam P cmp (evC P cmp ext) lpC c ⟨a++List.replicate m .undef,h,[]⟩)):Pans (evC P cmp ext) f a h v:=by
 subst hm
 obtain⟨s,e⟩:=e.out
 have hc:=qr8 (cmp:=cmp) hx hf hb hd a h
 rw[e]at hc
 refine⟨(qbf h.length v s.heap s.dirty).2,?_⟩
 rw[hc]
 simp only[fin,leave_val,hv]
theorem qaw {v:AVal} {s:St}:finP v (some (.pan v,s)):=⟨⟨s,rfl⟩⟩
theorem q40 (pk:Bool) (ask:Eff→Bool) (v:AVal) (f:Eff) (d:Option Tmp) (ts:List AVal) (h:qab) (dd:List Nat) (k:St→Option (AEx×St)):qfh false pk ask (some (.pan v f)) d ⟨ts,h,dd⟩ k=some (.pan v,⟨ts,f.of h,f.dirt++dd⟩):=rfl
theorem q41 (pk:Bool) (ask:Eff→Bool) (v:AVal) (f:Eff) (d:Option Tmp) (ts:List AVal) (h:qab) (dd:List Nat) (k:St→Option (AEx×St)):qfh true pk ask (some (.pan v f)) d ⟨ts,h,dd⟩ k=ifB pk (some (.pan v,⟨[],f.of h,f.dirt++dd⟩)):=by cases pk<;>rfl
theorem qpu {b:Bool} {x:Option (AEx×St)} (h:b=true):ifB b x=x:=by subst h;rfl
abbrev pans:=Ji @q40 @q41
theorem qmq {c:Call} {H:qab} {f:FuncId} {args:List AVal} {v:AVal} (idx:List Nat) (hidx:qbq H 256 (qad args) []=idx) (hok:qcz H idx args=true)
 (g:Pans c f (renL (fun x=>idx.idxOf x) args) (subH H idx) v) (hv:refs v=[]):∃e:Eff,qah c H f args=some (.pan v e):=by
 obtain⟨e,h2⟩:=g
 refine⟨qgf H idx e,?_⟩
 unfold qah
 simp only[hidx]
 rw[if_pos hok,h2]
 simp only
 rw[qfu v (by rw[hv];simp)]
theorem At.of {junk:List Nat} {ts0:List AVal} {H0:qab} {w:List (Nat×AVal)} {s:St} (T:qab) (h1:s.tmps=upd (w++junk.map fun k=>(k,s.tmps.getD k .undef)) ts0) (h2:s.heap=H0++T):At junk ts0 H0 w s:=by
 obtain⟨a,b,c⟩:=s
 simp only at h1 h2
 subst h2
 unfold At
 simp only[List.drop_left]
 rw[←h1]
theorem stepB_eff (pk:Bool) (ask:Eff→Bool) (v:AVal) (f:Eff) (d:Tmp) (ts:List AVal) (h:qab) (dd:List Nat) (k:St→Option (AEx×St)):qfh false pk ask (some (.val v f)) (some d) ⟨ts,h,dd⟩ k=k ⟨ts.set d v,f.of h,f.dirt++dd⟩:=rfl
theorem q42 (pk:Bool) (ask:Eff→Bool) (v:AVal) (f:Eff) (ts:List AVal) (h:qab) (dd:List Nat) (k:St→Option (AEx×St)):qfh false pk ask (some (.val v f)) none ⟨ts,h,dd⟩ k=k ⟨ts,f.of h,f.dirt++dd⟩:=rfl
theorem dirt_same:Eff.dirt .same=[]:=rfl
theorem dirt_heap (h:qab) (d:List Nat):Eff.dirt (.heap h d)=d:=rfl
theorem stepD_eff (pk:Bool) (ask:Eff→Bool) (v:AVal) (f:Eff) (d:Tmp) (ts:List AVal) (h:qab) (dd:List Nat) (k:St→Option (AEx×St)):qfh true pk ask (some (.val v f)) (some d) ⟨ts,h,dd⟩ k=ifB (ask f) (k ⟨ts.set d v,f.of h,f.dirt++dd⟩):=rfl
theorem q43 (pk:Bool) (ask:Eff→Bool) (v:AVal) (f:Eff) (ts:List AVal) (h:qab) (dd:List Nat) (k:St→Option (AEx×St)):qfh true pk ask (some (.val v f)) none ⟨ts,h,dd⟩ k=ifB (ask f) (k ⟨ts,f.of h,f.dirt++dd⟩):=rfl
abbrev effs:=Ji @stepB_eff (Ji @q42 (Ji @stepD_eff (Ji @q43 (Ji @dirt_same @dirt_heap))))
theorem qed {b:Bool} {af:List Edge} {ts:List AVal} {d:List Nat} {j:Nat} {ops:List Oper} {x:Option (AEx×St)} (h1:qi5 ops j=true) (h2:qak af ts d 0 j ops=true):ifB (askC b (callU af ts d j ops)) x=x:=by
 unfold askC callU
 rw[h1,h2]
 simp[ifB]
def qnd (c:Call) (H:qab) (f:FuncId) (args:List AVal) (v:AVal) (H2:qab):Prop:=∃e:Eff,qah c H f args=some (.ret v e)∧e.of H=H2
theorem qjc {c:Call} (hkeep:qa7 c) {H:qab} {f:FuncId} {args:List AVal} {v:AVal} {h1 H2:qab} (idx:List Nat) (hidx:qbq H 256 (qad args) []=idx) (hnd:idx.Nodup) (hok:qcz H idx args=true)
 (g:qbk c f (renL (fun x=>idx.idxOf x) args) (subH H idx) v h1) (hv:refs v=[]) (hb:∀H',BackH H idx h1 H'→H'=H2):qnd c H f args v H2:=by
 obtain⟨e,h2,h3⟩:=g
 refine⟨qgf H idx e,?_,hb _ ?_⟩
 ·unfold qah
  simp only[hidx]
  rw[if_pos hok,h2]
  simp only
  rw[qfu v (by rw[hv];simp)]
 ·rw[←h3]
  exact qjr (qk3 hnd hok).1 (hkeep _ _ _ _ h2).1
theorem qbo {cs:List AVal} (h:qad cs=[]) (σ:Nat→Nat):renL σ cs=cs:=qcy cs (by rw[h];simp)
theorem qy6 {c:Call} (hkeep:qa7 c) {H:qab} {f:FuncId} {args:List AVal} {v:AVal} {b1 b2:Nat} {x0 x1 y0 y1:List AVal} (ha:qad args=[b1,b2]) (hne:b1≠b2) (h1:H[b1]? =some (.box x0)) (h2:H[b2]? =some (.box x1))
 (px0:qad x0=[]) (px1:qad x1=[]) (py0:qad y0=[]) (py1:qad y1=[])
 (g:qbk c f (renL (fun x=>[b1,b2].idxOf x) args) [.box x0,.box x1] v [.box y0,.box y1]) (hv:refs v=[]):
 qnd c H f args v ((H.set b1 (.box y0)).set b2 (.box y1)):=by
 have l1:=(wa.1 h1).1
 have l2:=(wa.1 h2).1
 refine qjc hkeep [b1,b2] ?_ (by simp[hne]) ?_ (?_:qbk c f _ (subH H [b1,b2]) v [.box y0,.box y1]) hv ?_
 ·rw[ha];simp[qbq,h1,h2,px0,px1,hne.symm]
 ·unfold qcz;simp[ha,h1,h2,qdj,px0,px1]
 ·have:subH H [b1,b2]=[.box x0,.box x1]:=by
   simp only[subH,wo,wt,wg,h1,h2,wk,renB,qbo px0,qbo px1]
  rw[this];exact g
 ·intro H' k
  apply wh
  intro i
  by_cases e2:b2=i
  ·subst e2
   rw[k.inn 1 b2 rfl,wi (by simpa using l2)]
   simp[renB,qbo py1]
  ·rw[we e2]
   by_cases e1:b1=i
   ·subst e1
    rw[k.inn 0 b1 rfl,wi l1]
    simp[renB,qbo py0]
   ·rw[we e1]
    by_cases hi:i<H.length
    ·exact k.out i hi (by simp[w7 e1,w7 e2])
    ·have e3:([Blk.box y0,Blk.box y1]:List Blk)[[b1,b2].length+(i-H.length)]? =none:=wb (by simp)
     have e4:H[i]? =none:=wb (by omega)
     rw[k.new i (by omega),e3,e4]
     rfl
theorem qel {α R:Type} {f:St→Option (AEx×St)} {ts0:List AVal} {H0:qab} {d0:List Nat} {r:Option (AEx×St)} (hl:lpC f ⟨ts0,H0,d0⟩=r)
 (junk:List Nat) (w:α→List (Nat×AVal)) (hp:α→qab) (I:α→Prop) (μ:α→Nat) (den:α→R) (Post:List AVal→R→AEx→St→Prop) (a0:α) (h0:I a0)
 (hw:At junk ts0 (hp a0) (w a0) ⟨ts0,H0,d0⟩)
 (hs:∀a (j:Nat→AVal) H d,I a→
  (∃a' s',f ⟨upd (w a++junk.map fun k=>(k,j k)) ts0,hp a++H,d⟩=some (.normal,s')∧I a'∧At junk ts0 (hp a') (w a') s'∧μ a'<μ a∧den a'=den a)∨
  (∃ex s',f ⟨upd (w a++junk.map fun k=>(k,j k)) ts0,hp a++H,d⟩=some (ex,s')∧(∀s1:St,(ex,s')≠(AEx.normal,s1))∧Post ts0 (den a) ex s')):
 ∃ex s',r=some (ex,s')∧Post ts0 (den a0) ex s':=by
 subst hl
 refine qtd μ den (fun a s=>I a∧At junk ts0 (hp a) (w a) s) (Post ts0) ?_ (μ a0) a0 _ (wm _) ⟨h0,hw⟩
 rintro a s ⟨hi,ha⟩
 obtain⟨j,H,d,rfl⟩:=ha.elim
 rcases hs a j H d hi with⟨a',s',h1,h2,h3,h4,h5⟩|h
 ·exact .inl ⟨a',s',h1,⟨h2,h3⟩,h4,h5⟩
 ·exact .inr h
end Go.Ab
namespace Go.Ab
def AtT (junk:List Nat) (ts0:List AVal) (w:List (Nat×AVal)) (ts:List AVal):Prop:=ts=upd (w++junk.map fun k=>(k,ts.getD k .undef)) ts0
theorem qd0 {α R:Type} {f:St→Option (AEx×St)} {ts0:List AVal} {H0:qab} {d0:List Nat} {r:Option (AEx×St)} (hl:lpC f ⟨ts0,H0,d0⟩=r)
 (junk:List Nat) (w:α→List (Nat×AVal)) (I:α→qab→Prop) (μ:α→Nat) (den:α→R) (Post:List AVal→R→AEx→St→Prop) (a0:α) (h0:I a0 H0)
 (hw:AtT junk ts0 (w a0) ts0)
 (hs:∀a (j:Nat→AVal) h d,I a h→
  (∃a' s',f ⟨upd (w a++junk.map fun k=>(k,j k)) ts0,h,d⟩=some (.normal,s')∧I a' s'.heap∧AtT junk ts0 (w a') s'.tmps∧μ a'<μ a∧den a'=den a)∨
  (∃ex s',f ⟨upd (w a++junk.map fun k=>(k,j k)) ts0,h,d⟩=some (ex,s')∧(∀s1:St,(ex,s')≠(AEx.normal,s1))∧Post ts0 (den a) ex s')):
 ∃ex s',r=some (ex,s')∧Post ts0 (den a0) ex s':=by
 subst hl
 refine qtd μ den (fun a s=>I a s.heap∧AtT junk ts0 (w a) s.tmps) (Post ts0) ?_ (μ a0) a0 _ (wm _) ⟨h0,hw⟩
 rintro a ⟨ts,h,d⟩ ⟨hi,ha⟩
 have ha':ts=upd (w a++junk.map fun k=>(k,ts.getD k .undef)) ts0:=ha
 rw[ha']
 rcases hs a (fun k=>ts.getD k .undef) h d hi with⟨a',s',h1,h2,h3,h4,h5⟩|h
 ·exact .inl ⟨a',s',h1,⟨h2,h3⟩,h4,h5⟩
 ·exact .inr h
def OutT (junk:List Nat) (ts0:List AVal) (w:List (Nat×AVal)) (I:qab→Prop) (s:St):Prop:=AtT junk ts0 w s.tmps∧I s.heap
theorem OutT.elim {junk:List Nat} {ts0:List AVal} {w:List (Nat×AVal)} {I:qab→Prop} {s:St} (h:OutT junk ts0 w I s):
 ∃(j:Nat→AVal) (H:qab) (d:List Nat),I H∧s=⟨upd (w++junk.map fun k=>(k,j k)) ts0,H,d⟩:=by
 obtain⟨ts,h',d⟩:=s
 refine⟨fun k=>ts.getD k .undef,h',d,h.2,?_⟩
 have:=h.1
 unfold AtT at this
 simp only at this
 rw[←this]
def Grow (h:qab) (v:AVal) (es:List (List AVal)) (T:TypeId):Prop:=(es=[]∧v= .slice [] .full)∨∃t,v= .slice es (.own t)∧h[t]? =some (.tok es.length T)
def Boxes (h h':qab):Prop:=∀(k:Nat) (cs:List AVal),h[k]? =some (.box cs)→h'[k]? =some (.box cs)
theorem Boxes.refl (h:qab):Boxes h h:=fun _ _ e=>e
theorem Boxes.trans {a b c:qab} (h:Boxes a b) (k:Boxes b c):Boxes a c:=fun i cs e=>k i cs (h i cs e)
theorem Boxes.app (h l:qab):Boxes h (h++l):=fun k cs e=>by
 rw[wc (wa.1 e).1];exact e
theorem Grow.app {h:qab} {v:AVal} {es:List (List AVal)} {T:TypeId} (g:Grow h v es T) (l:qab):Grow (h++l) v es T:=by
 rcases g with g|⟨t,hv,ht⟩
 ·exact .inl g
 ·exact .inr ⟨t,hv,by rw[wc (wa.1 ht).1];exact ht⟩
theorem qck {sz:Nat} {es:List (List AVal)} (h:∀c∈es,c.length=sz):qfa sz es=true:=by
 cases es with
 |nil=>rfl
 |cons c r=>simp[qfa,h c (by simp)]
theorem q1k {P:Program} {t e sz:Nat} (ok:qfn P t e sz) {h:qab} {v:AVal} {es fs:List (List AVal)} (g:Grow h v es e) (hl:es.length+fs.length≤qac) (h1:∀c∈es,c.length=sz) (h2:∀c∈fs,c.length=sz) (hne:¬fs=[]):
 ∃v' f,qdi P h t v (.slice fs .full)=some (v',f)∧Grow (f.of h) v' (es++fs) e∧Boxes h (f.of h):=by
 rcases g with⟨rfl,rfl⟩|⟨p,rfl,hp⟩
 ·refine⟨_,_,qch h ok hl (qck h1) (qck h2) hne,.inr ⟨_,rfl,?_⟩,Boxes.app _ _⟩
  simp[Eff.of]
 ·refine⟨_,_,qcx h ok hl (qck h1) (qck h2) hne hp rfl,.inr ⟨_,rfl,?_⟩,?_⟩
  ·simp only[Eff.of]
   rw[wi (wa.1 hp).1]
   simp
  ·intro k cs hk
   simp only[Eff.of]
   by_cases hkp:p=k
   ·subst hkp;rw[hp]at hk;cases hk
   ·rw[we hkp];exact hk
end Go.Ab
namespace Go.Ab
def encS (l:List Str):List (List AVal):=l.map fun s=>[.str s]
theorem qjv (l:List Str):(encS l).length=l.length:=by simp[encS]
theorem encS_app (l m:List Str):encS (l++m)=encS l++encS m:=by simp[encS]
theorem qvh (l:List Str):∀c∈encS l,c.length=1:=by
 intro c hc;obtain⟨x,_,rfl⟩:=List.mem_map.1 hc;rfl
def PrAt (T:TypeId) (h:qab) (b:Nat) (ws:List Str):Option Nat→Prop
 |none=>ws=[]∧h[b]? =some (.box [.slice [] .full])
 |some t=>h[b]? =some (.box [.slice (encS ws) (.own t)])∧h[t]? =some (.tok ws.length T)
theorem PrAt.app {T:TypeId} {h:qab} {b:Nat} {ws:List Str} {tk:Option Nat} (p:PrAt T h b ws tk) (l:qab):PrAt T (h++l) b ws tk:=by
 cases tk with
 |none=>exact⟨p.1,by rw[wc (wa.1 p.2).1];exact p.2⟩
 |some t=>exact⟨by rw[wc (wa.1 p.1).1];exact p.1,by rw[wc (wa.1 p.2).1];exact p.2⟩
def Canon (T:TypeId) (h:qab) (ws:List Str):Option Nat→Prop
 |none=>ws=[]∧h=[.box [.slice [] .full]]
 |some t=>t=1∧h=[.box [.slice (encS ws) (.own 1)],.tok ws.length T]
def pOwn (T:TypeId) (ws:List Str):qab:=[.box [.slice (encS ws) (.own 1)],.tok ws.length T]
theorem Canon.at {T:TypeId} {h:qab} {ws:List Str} {tk:Option Nat} (c:Canon T h ws tk):PrAt T h 0 ws tk:=by
 cases tk with
 |none=>obtain⟨rfl,rfl⟩:=c;exact⟨rfl,rfl⟩
 |some t=>obtain⟨rfl,rfl⟩:=c;exact⟨rfl,rfl⟩
def Others (b:Nat) (h h':qab):Prop:=∀(k:Nat) (cs:List AVal),k≠b→h[k]? =some (.box cs)→h'[k]? =some (.box cs)
theorem Others.refl (b:Nat) (h:qab):Others b h h:=fun _ _ _ e=>e
theorem Others.app (b:Nat) (h l:qab):Others b h (h++l):=fun k cs _ e=>Boxes.app h l k cs e
def PrC (T:TypeId) (C:Call) (f:FuncId) (rest:List AVal) (out:List Str):Prop:=
 ∀(ws:List Str) (tk:Option Nat) (h:qab),Canon T h ws tk→ws.length+out.length≤qac→qbk C f (.ptr 0 0::rest) h (.tuple []) (pOwn T (ws++out))
def PrO (T:TypeId) (C:Call) (f:FuncId) (rest:List AVal) (out:List Str):Prop:=
 ∀(ws:List Str),ws.length+out.length≤qac→qbk C f (.ptr 0 0::rest) (pOwn T ws) (.tuple []) (pOwn T (ws++out))
theorem PrC.own {T:TypeId} {C:Call} {f:FuncId} {rest:List AVal} {out:List Str} (c:PrC T C f rest out):PrO T C f rest out:=fun ws hl=>c ws (some 1) (pOwn T ws) ⟨rfl,rfl⟩ hl
theorem qri (σ:Nat→Nat) (es:List (List AVal)) (t:Nat):renL σ [.slice es (.own t)]=[.slice es (.own (σ t))]:=rfl
theorem qba {T:TypeId} {C:Call} (hk:qa7 C) {f:FuncId} {rest:List AVal} {out:List Str} (c:PrO T C f rest out) (hr:qad rest=[]) {h:qab} {b:Nat} {ws:List Str} {t:Nat} (p:PrAt T h b ws (some t)) (hl:ws.length+out.length≤qac):
 ∃e:Eff,qah C h f (.ptr b 0::rest)=some (.ret (.tuple []) e)∧PrAt T (e.of h) b (ws++out) (some t)∧Others b h (e.of h)∧h.length≤(e.of h).length:=by
 have hra:qad (.ptr b 0::rest)=[b]:=by simp[qad,refs,hr]
 obtain⟨hb,ht⟩:=p
 have hne:t≠b:=by
  intro e;subst e;rw[hb]at ht;cases ht
 have hnb:(b==t)=false:=beq_false_of_ne (w7 hne)
 have hlt:=(wa.1 hb).1
 have htt:=(wa.1 ht).1
 have g:=c ws hl
 have hidx:qbq h 256 (qad (.ptr b 0::rest)) []=[b,t]:=by rw[hra];simp[qbq,hb,ht,qad,refs,hne]
 have hok:qcz h [b,t] (.ptr b 0::rest)=true:=by unfold qcz;simp[hra,hb,ht,qdj,qad,refs,hr]
 have hsub:subH h [b,t]=pOwn T ws:=by
  simp only[subH,wo,wt,wg,hb,ht,wk,renB,qri,pOwn,ww,hnb,beq_self_eq_true,cond_true,cond_false]
  try rfl
 have hren:renL (fun x=>[b,t].idxOf x) (.ptr b 0::rest)= .ptr 0 0::rest:=by
  simp only[renL,ren,qbo hr,ww,beq_self_eq_true,cond_true]
 obtain⟨e,h1,h2⟩:=g
 rw[←hren,←hsub]at h1
 have hbk:=qjr (qk3 (by simp[hne.symm]) hok).1 (hk _ _ _ _ h1).1
 rw[hsub]at hbk
 simp only[CR.eff]at hbk
 rw[h2]at hbk
 refine⟨qgf h [b,t] e,?_,⟨?_,?_⟩,?_,hbk.len⟩
 ·unfold qah
  simp only[hidx]
  rw[if_pos hok,h1]
  rfl
 ·rw[hbk.inn 0 b rfl]
  rfl
 ·rw[hbk.inn 1 t rfl]
  rfl
 ·intro k cs hkb hh
  have hkt:k≠t:=by intro e;subst e;rw[ht]at hh;cases hh
  rw[hbk.out k (wa.1 hh).1 (by simp[hkb,hkt])]
  exact hh
theorem qds {T:TypeId} {C:Call} (hk:qa7 C) {f:FuncId} {rest:List AVal} {out:List Str} (c:PrC T C f rest out) (hr:qad rest=[]) {h:qab} {b:Nat} {ws:List Str} {tk:Option Nat} (p:PrAt T h b ws tk) (hl:ws.length+out.length≤qac):
 ∃e:Eff,qah C h f (.ptr b 0::rest)=some (.ret (.tuple []) e)∧∃t,(∀t0,tk=some t0→t=t0)∧(tk=none→h.length≤t)∧PrAt T (e.of h) b (ws++out) (some t)∧Others b h (e.of h)∧h.length≤(e.of h).length:=by
 have hra:qad (.ptr b 0::rest)=[b]:=by simp[qad,refs,hr]
 cases tk with
 |none=>
  obtain⟨rfl,hb⟩:=p
  have hlt:=(wa.1 hb).1
  have g:=c [] none [.box [.slice [] .full]] ⟨rfl,rfl⟩ hl
  have hidx:qbq h 256 (qad (.ptr b 0::rest)) []=[b]:=by rw[hra];simp[qbq,hb,qad,refs]
  have hok:qcz h [b] (.ptr b 0::rest)=true:=by unfold qcz;simp[hra,hb,qdj,qad,refs,hr]
  have hsub:subH h [b]=[.box [.slice [] .full]]:=by
   simp only[subH,wo,wt,wg,hb,wk,renB];rfl
  have hren:renL (fun x=>[b].idxOf x) (.ptr b 0::rest)= .ptr 0 0::rest:=by
   simp only[renL,ren,qbo hr];simp
  obtain⟨e,h1,h2⟩:=g
  rw[←hren,←hsub]at h1
  have hbk:=qjr (qk3 (by simp) hok).1 (hk _ _ _ _ h1).1
  rw[hsub]at hbk
  simp only[CR.eff]at hbk
  rw[h2]at hbk
  refine⟨qgf h [b] e,?_,h.length,fun t0 e0=>(by cases e0),fun _=>wm _,⟨?_,?_⟩,?_,hbk.len⟩
  ·unfold qah
   simp only[hidx]
   rw[if_pos hok,h1]
   rfl
  ·rw[hbk.inn 0 b rfl]
   rfl
  ·rw[hbk.new h.length (wm _)]
   simp[pOwn,renB]
  ·intro k cs hkb hh
   rw[hbk.out k (wa.1 hh).1 (by simpa using hkb)]
   exact hh
 |some t=>
  obtain⟨e,h1,h2,h3,h4⟩:=qba hk c.own hr p hl
  exact⟨e,h1,t,fun t0 e0=>Option.some.inj e0,fun e0=>(by cases e0),h2,h3,h4⟩
def finF (P:Program) (h0:qab) (rs:List ResultVar) (v:AVal) (h1:qab):Option (AEx×St)→Prop
 |some (.normal,s)|some (.ret,s)=>∃vs,resA P rs s=some vs∧(KeepH h0 s.heap s.dirty→(qbf h0.length (qcb vs) s.heap s.dirty).1=v∧(qbf h0.length (qcb vs) s.heap s.dirty).2.of h0=h1)
 |_=>False
theorem qzy {P:Program} {cmp:List TypeId} {ext:Ext} (hkeep:qa7 (evC P cmp ext)) {f:FuncId} {fn:Func} {c:Code} (hx:ext f=none) (hf:P.funcs[f]? =some fn) (hb:fn.body=some c) (hd:qcp c=true) {a:List AVal} {h:qab} {m:Nat} (hm:fn.ntmps-a.length=m) {v:AVal} {h1:qab}
 (e:finF P h fn.results.toList v h1 (qam P cmp (evC P cmp ext) lpC c ⟨a++List.replicate m .undef,h,[]⟩)):qbk (evC P cmp ext) f a h v h1:=by
 subst hm
 have hc:=qr8 (cmp:=cmp) hx hf hb hd a h
 rw[←qih c _ hd]at e
 rw[←qih c _ hd]at hc
 cases hr:qa6 P cmp (evC P cmp ext) lpC c ⟨a++List.replicate (fn.ntmps-a.length) .undef,h,[]⟩with
 |none=>rw[hr]at e;exact e.elim
 |some x=>
  obtain⟨ex,s⟩:=x
  have hk:=(qdy hkeep qna _ _ _ hr).1
  rw[hr]at e hc
  cases ex with
  |normal=>
   obtain⟨vs,h2,h3⟩:=e
   obtain⟨h4,h5⟩:=h3 hk
   refine⟨_,?_,h5⟩
   rw[hc];simp only[fin,h2,h4]
  |ret=>
   obtain⟨vs,h2,h3⟩:=e
   obtain⟨h4,h5⟩:=h3 hk
   refine⟨_,?_,h5⟩
   rw[hc];simp only[fin,h2,h4]
  |exit=>exact e.elim
  |pan=>exact e.elim
theorem qdb {P:Program} {T:TypeId} {h0:qab} {ws out:List Str} {tk:Option Nat} (c:Canon T h0 ws tk) (hne:tk=none→out≠[]) {rs:List ResultVar} {s:St} {ex:AEx} (hex:ex= .ret∨ex= .normal) (hrs:rs=[])
 {t:Nat} (h1:∀t0,tk=some t0→t=t0) (h2:tk=none→h0.length≤t) (p:PrAt T s.heap 0 (ws++out) (some t)):finF P h0 rs (.tuple []) (pOwn T (ws++out)) (some (ex,s)):=by
 subst hrs
 have main:KeepH h0 s.heap s.dirty→(qbf h0.length (qcb []) s.heap s.dirty).1= .tuple []∧(qbf h0.length (qcb []) s.heap s.dirty).2.of h0=pOwn T (ws++out):=by
  intro hk
  cases tk with
  |some t0=>
   obtain rfl:=h1 t0 rfl
   obtain⟨rfl,rfl⟩:=c
   have hp1:=p.1
   have hp2:=p.2
   have hst:∀b,b<2→qib 2 s.heap b:=by
    intro b hb
    rcases b with _|_|b
    ·exact⟨_,hp1,fun mv=>by unfold qg0;rw[hp1];rfl⟩
    ·exact⟨_,hp2,fun mv=>by unfold qg0;rw[hp2]⟩
    ·omega
   have:=qos (n:=2) (v:=qcb []) rfl hk rfl hst
   refine⟨this.1,?_⟩
   refine this.2.trans ?_
   apply wh
   intro i
   rcases i with _|_|i
   ·rw[wd (by omega),hp1];rfl
   ·rw[wd (by omega),hp2];rfl
   ·rw[wb (by rw[wv];omega),wb (by simp[pOwn])]
  |none=>
   obtain⟨rfl,rfl⟩:=c
   have hp1:=p.1
   have hp2:=p.2
   have ht:1≤t:=h2 rfl
   simp only[wz]at hp1 hp2 ⊢
   have h0d:0∈s.dirty:=by
    apply Classical.byContradiction
    intro hn
    have:=hk.2 0 (by simp) hn
    rw[hp1]at this
    cases out with
    |nil=>exact hne rfl rfl
    |cons o r=>simp[encS]at this
   have hd:qgg (s.dirty.filter (· <1))=[0]:=by
    have hm:0∈qgg (s.dirty.filter (· <1)):=qif.2 (wj.2 ⟨h0d,by simp⟩)
    have hall:∀x∈qgg (s.dirty.filter (· <1)),x=0:=by
     intro x hx
     have:=(wj.1 (qif.1 hx)).2
     simp only[decide_eq_true_eq]at this
     omega
    have hnd:=qut (s.dirty.filter (· <1))
    generalize qgg (s.dirty.filter (· <1))=l at hm hall hnd
    cases l with
    |nil=>cases hm
    |cons a r=>
     obtain rfl:=hall a (by simp)
     cases r with
     |nil=>rfl
     |cons b q=>
      obtain rfl:=hall b (by simp)
      simp at hnd
   have hlen:0<s.heap.length:=(wa.1 hp1).1
   obtain⟨x,hx⟩:∃x,s.heap.take 1=[x]:=by
    cases hh:s.heap with
    |nil=>rw[hh]at hlen;simp at hlen
    |cons x r=>exact⟨x,rfl⟩
   have hmv:qdv 1 s.heap [.slice (encS out) (.own t)] []=some ([.slice (encS out) (.own 1)],[t]):=by
    have hnt:¬t<1:=by omega
    simp only[qdv,if_neg hnt,hp2,qjv,List.contains_nil,Bool.not_false,Bool.and_true,decide_true,if_true,wz,w6,Nat.add_zero]
   have hlb:qf1 1 s.heap [0] (s.heap.take 1) []=some ([.box [.slice (encS out) (.own 1)]],[t]):=by
    simp only[qf1,qg0,hp1,hmv,hx,List.set_cons_zero]
   have hlow:lowA 1 (strip3 (qcb []))=true:=rfl
   unfold qbf
   simp only[List.length_cons,w6,Nat.zero_add]at*
   rw[hd,if_pos hlow,hlb]
   refine⟨rfl,?_⟩
   simp only[Eff.of,List.filterMap_cons,hp2,List.filterMap_nil,pOwn]
   rfl
 rcases hex with rfl|rfl
 ·exact⟨[],rfl,main⟩
 ·exact⟨[],rfl,main⟩
def sepW (sign:Str):List (List Str)→List Str
 |[]=>[]
 |x::r=>x++r.flatMap fun y=>sign::y
theorem sepW_snoc (sign:Str) (l:List (List Str)) (x:List Str):sepW sign (l++[x])=if l=[]then x else sepW sign l++([sign]++x):=by
 cases l with
 |nil=>simp[sepW]
 |cons y r=>simp[sepW,wq,List.append_assoc]
theorem qn9 (sign:Str) (L:List (List Str)) (i:Nat) (x:List Str) (h:L[i]? =some x):sepW sign (L.take (i+1))=if i=0 then x else sepW sign (L.take i)++([sign]++x):=by
 have hlt:=(wa.1 h).1
 have hx:L[i]=x:=(wa.1 h).2
 rw[List.take_succ_eq_append_getElem hlt,sepW_snoc,hx]
 cases i with
 |zero=>simp
 |succ j=>
  have:¬L.take (j+1)=[]:=by
   cases L with
   |nil=>simp at hlt
   |cons a r=>simp
  rw[if_neg this,if_neg (by omega)]
theorem qq2 (sign:Str) (L:List (List Str)) (i:Nat):(sepW sign (L.take i)).length≤(sepW sign L).length:=by
 cases L with
 |nil=>simp[sepW]
 |cons x r=>
  cases i with
  |zero=>simp[sepW]
  |succ j=>
   simp only[List.take_succ_cons,sepW,wu,Nat.add_le_add_iff_left]
   have:r.flatMap (fun y=>sign::y)=(r.take j).flatMap (fun y=>sign::y)++(r.drop j).flatMap (fun y=>sign::y):=by
    rw[←wq,List.take_append_drop]
   rw[this,wu]
   omega
end Go.Ab
