/- Loops by what is known of the heap at their heads. -/
import Derived.Test.YtngklkmeknmloaaGreatDoorAbSim
import Derived.Test.YtngklkmeknmloaaGreatDoorAbEqs
set_option linter.unusedSimpArgs false
set_option linter.unusedVariables false
set_option maxRecDepth 100000
set_option maxHeartbeats 4000000
open List renaming getElem?_eq_some_iff→wa,getElem?_append_left→wb,getElem?_take_of_lt→wc,getElem?_eq_none→wd,getElem?_set_ne→we,ext_getElem?→wg,mem_filter→wh
open Nat renaming le_refl→wi
namespace Go.Ab
def AtD (n:Nat) (junk:List Nat) (ts0:List AVal) (H0:qaa) (w:List (Nat×AVal)) (s:St):Prop:=At junk ts0 H0 w s∧∀x∈s.dirty,n≤x
theorem AtD.elim {n:Nat} {junk:List Nat} {ts0:List AVal} {H0:qaa} {w:List (Nat×AVal)} {s:St} (h:AtD n junk ts0 H0 w s):
 ∃(j:Nat→AVal) (H:qaa) (d:List Nat),(∀x∈d,n≤x)∧s=⟨upd (w++junk.map fun k=>(k,j k)) ts0,H0++H,d⟩:=⟨_,_,s.dirty,h.2,h.1⟩
theorem ql8 (n:Nat) (v:AVal) (h:qaa) (d:List Nat) (hd:∀x∈d,n≤x) (hr:refs (strip3 v)=[]):qaq n v h d=(strip3 v,.same):=by
 have hd':d.filter (· <n)=[]:=by
  rw[List.filter_eq_nil_iff]
  intro x hx
  have:=hd x hx
  simp;omega
 have ht:qdi n v h []=some (strip3 v,.same):=by
  unfold qdi
  simp only
  rw[if_pos (by unfold lowA;rw[hr];rfl)]
 simp only[qaq,hd',qdf,ht]
end Go.Ab
namespace Go.Ab
def qgd (c:Call) (f:FuncId) (args:List AVal) (h:qaa) (v:AVal) (h':qaa):Prop:=∃e:Eff,c f args h=some (.ret v e)∧e.of h=h'
def Stays (n:Nat) (h:qaa) (b:Nat):Prop:=∃x,h[b]? =some x∧∀mv,qgn n h b mv=some (x,mv)
theorem qh6 (n:Nat) (h:qaa) (hs:∀b,b<n→Stays n h b):∀(d:List Nat) (mv:List Nat),(∀b∈d,b<n)→qc8 n h d (h.take n) mv=some (h.take n,mv)
 |[],mv,_=>rfl
 |b::r,mv,hd=>by
  obtain⟨x,hx,hl⟩:=hs b (hd b (by simp))
  simp only[qc8,hl]
  have:(h.take n).set b x=h.take n:=by
   apply wg
   intro i
   by_cases hi:b=i
   ·subst hi
    have hb:=hd b (by simp)
    rw[List.getElem?_set_self',wc hb,hx]
    rfl
   ·rw[we hi]
  rw[this]
  exact qh6 n h hs r mv (fun c hc=>hd c (by simp[hc]))
theorem ql9 {n:Nat} {v:AVal} {h0 h:qaa} {d:List Nat} (hn:h0.length=n) (hk:KeepH h0 h d) (hv:lowA n (strip3 v)=true) (hs:∀b,b<n→Stays n h b):
 (qaq n v h d).1=strip3 v∧(qaq n v h d).2.of h0=h.take n:=by
 have hlt:∀b∈qdf (d.filter (· <n)),b<n:=fun b hb=>by
  have:=qfx.1 hb
  simpa using(wh.1 this).2
 have key:∀r,qdi n v h (qdf (d.filter (· <n)))=some r→qaq n v h d=r:=fun r hr=>by simp only[qaq,hr]
 unfold qdi at key
 simp only[hv,if_true]at key
 split at key
 ·rename_i he
  rw[key _ rfl]
  refine⟨rfl,?_⟩
  simp only[Eff.of]
  apply wg
  intro i
  by_cases hi:i<n
  ·rw[wc hi]
   refine(hk.2 i (by omega) (fun hm=> ?_)).symm
   have:i∈qdf (d.filter (· <n)):=qfx.2 (wh.2 ⟨hm,by simpa using hi⟩)
   rw[he]at this
   cases this
  ·rw[wd (by omega),wd (by rw[List.length_take];omega)]
 ·rw[qh6 n h hs _ [] hlt]at key
  rw[key _ rfl]
  refine⟨rfl,?_⟩
  simp[Eff.of]
def finE0 (P:Program) (n:Nat) (rs:List ResultVar) (v:AVal) (h1:qaa):Option (AEx×St)→Prop
 |some (.normal,s)|some (.ret,s)=>∃vs,resA P rs s=some vs∧∀h0:qaa,h0.length=n→KeepH h0 s.heap s.dirty→(qaq n (qb0 vs) s.heap s.dirty).1=v∧(qaq n (qb0 vs) s.heap s.dirty).2.of h0=h1
 |_=>False
structure finE (P:Program) (n:Nat) (rs:List ResultVar) (v:AVal) (h1:qaa) (r:Option (AEx×St)):Prop where
 out:finE0 P n rs v h1 r
theorem qqw {P:Program} {cmp:List TypeId} {ext:Ext} (hkeep:qan (evC P cmp ext)) {f:FuncId} {fn:Func} {c:Code} (hx:ext f=none) (hf:P.funcs[f]? =some fn) (hb:fn.body=some c) (hd:qb9 c=true) {a:List AVal} {h:qaa} {m:Nat} (hm:fn.ntmps-a.length=m) {v:AVal} {h1:qaa}
 (e:finE P h.length fn.results.toList v h1 (qar P cmp (evC P cmp ext) lpC c ⟨a++List.replicate m .undef,h,[]⟩)):qgd (evC P cmp ext) f a h v h1:=by
 subst hm
 replace e:=e.out
 have hc:=evC_fn (cmp:=cmp) hx hf hb hd a h
 rw[←qmm c _ hd]at e
 rw[←qmm c _ hd]at hc
 cases hr:qak P cmp (evC P cmp ext) lpC c ⟨a++List.replicate (fn.ntmps-a.length) .undef,h,[]⟩with
 |none=>rw[hr]at e;exact e.elim
 |some x=>
  obtain⟨ex,s⟩:=x
  have hk:=(qbu hkeep qhz _ _ _ hr).1
  rw[hr]at e hc
  cases ex with
  |normal=>
   obtain⟨vs,h2,h3⟩:=e
   obtain⟨h4,h5⟩:=h3 h rfl hk
   refine⟨_,?_,h5⟩
   rw[hc];simp only[fin,h2,h4]
  |ret=>
   obtain⟨vs,h2,h3⟩:=e
   obtain⟨h4,h5⟩:=h3 h rfl hk
   refine⟨_,?_,h5⟩
   rw[hc];simp only[fin,h2,h4]
  |exit=>exact e.elim
  |pan=>exact e.elim
theorem qo1 {P:Program} {n:Nat} {rs:List ResultVar} {v:AVal} {h1:qaa} {s:St} {ex:AEx} {vs:List AVal} (hex:ex= .ret∨ex= .normal) (hr:resA P rs s=some vs) (hv:strip3 (qb0 vs)=v) (hl:lowA n v=true)
 (hs:∀b,b<n→Stays n s.heap b) (hh:s.heap.take n=h1):finE P n rs v h1 (some (ex,s)):=by
 subst hv;subst hh
 rcases hex with rfl|rfl
 ·exact⟨⟨vs,hr,fun h0 hn hk=>ql9 hn hk hl hs⟩⟩
 ·exact⟨⟨vs,hr,fun h0 hn hk=>ql9 hn hk hl hs⟩⟩
theorem At.of {junk:List Nat} {ts0:List AVal} {H0:qaa} {w:List (Nat×AVal)} {s:St} (T:qaa) (h1:s.tmps=upd (w++junk.map fun k=>(k,s.tmps.getD k .undef)) ts0) (h2:s.heap=H0++T):At junk ts0 H0 w s:=by
 obtain⟨a,b,c⟩:=s
 simp only at h1 h2
 subst h2
 unfold At
 simp only[List.drop_left]
 rw[←h1]
theorem stepB_eff (pk:Bool) (ask:Eff→Bool) (v:AVal) (f:Eff) (d:Tmp) (ts:List AVal) (h:qaa) (dd:List Nat) (k:St→Option (AEx×St)):qci false pk ask (some (.val v f)) (some d) ⟨ts,h,dd⟩ k=k ⟨ts.set d v,f.of h,f.dirt++dd⟩:=rfl
theorem qto (pk:Bool) (ask:Eff→Bool) (v:AVal) (f:Eff) (ts:List AVal) (h:qaa) (dd:List Nat) (k:St→Option (AEx×St)):qci false pk ask (some (.val v f)) none ⟨ts,h,dd⟩ k=k ⟨ts,f.of h,f.dirt++dd⟩:=rfl
theorem dirt_same:Eff.dirt .same=[]:=rfl
theorem dirt_heap (h:qaa) (d:List Nat):Eff.dirt (.heap h d)=d:=rfl
theorem stepD_eff (pk:Bool) (ask:Eff→Bool) (v:AVal) (f:Eff) (d:Tmp) (ts:List AVal) (h:qaa) (dd:List Nat) (k:St→Option (AEx×St)):qci true pk ask (some (.val v f)) (some d) ⟨ts,h,dd⟩ k=ifB (ask f) (k ⟨ts.set d v,f.of h,f.dirt++dd⟩):=rfl
theorem qtp (pk:Bool) (ask:Eff→Bool) (v:AVal) (f:Eff) (ts:List AVal) (h:qaa) (dd:List Nat) (k:St→Option (AEx×St)):qci true pk ask (some (.val v f)) none ⟨ts,h,dd⟩ k=ifB (ask f) (k ⟨ts,f.of h,f.dirt++dd⟩):=rfl
abbrev effs:=Ji @stepB_eff (Ji @qto (Ji @stepD_eff (Ji @qtp (Ji @dirt_same @dirt_heap))))
def GivesA (c:Call) (H:qaa) (f:FuncId) (args:List AVal) (v:AVal) (H2:qaa):Prop:=∃e:Eff,qa7 c H f args=some (.ret v e)∧e.of H=H2
theorem qr4 {c:Call} (hkeep:qan c) {H:qaa} {f:FuncId} {args:List AVal} {v:AVal} {h1 H2:qaa} (idx:List Nat) (hidx:qa2 H 256 (qag args) []=idx) (hnd:idx.Nodup) (hok:qdc H idx args=true)
 (g:qgd c f (renL (fun x=>idx.idxOf x) args) (subH H idx) v h1) (hv:refs v=[]) (hb:∀H',BackH H idx h1 H'→H'=H2):GivesA c H f args v H2:=by
 obtain⟨e,h2,h3⟩:=g
 refine⟨qdd H idx e,?_,hb _ ?_⟩
 ·unfold qa7
  simp only[hidx]
  rw[if_pos hok,h2]
  simp only
  rw[qcj v (by rw[hv];simp)]
 ·rw[←h3]
  exact qih (qmf hnd hok).1 (hkeep _ _ _ _ h2).1
theorem qg1 {cs:List AVal} (h:qag cs=[]) (σ:Nat→Nat):renL σ cs=cs:=qas cs (by rw[h];simp)
theorem lpC_atH {α R:Type} {f:St→Option (AEx×St)} {ts0:List AVal} {H0:qaa} {d0:List Nat} {r:Option (AEx×St)} (hl:lpC f ⟨ts0,H0,d0⟩=r)
 (junk:List Nat) (w:α→List (Nat×AVal)) (hp:α→qaa) (I:α→Prop) (μ:α→Nat) (den:α→R) (Post:List AVal→R→AEx→St→Prop) (a0:α) (h0:I a0)
 (hw:At junk ts0 (hp a0) (w a0) ⟨ts0,H0,d0⟩)
 (hs:∀a (j:Nat→AVal) H d,I a→
  (∃a' s',f ⟨upd (w a++junk.map fun k=>(k,j k)) ts0,hp a++H,d⟩=some (.normal,s')∧I a'∧At junk ts0 (hp a') (w a') s'∧μ a'<μ a∧den a'=den a)∨
  (∃ex s',f ⟨upd (w a++junk.map fun k=>(k,j k)) ts0,hp a++H,d⟩=some (ex,s')∧(∀s1:St,(ex,s')≠(AEx.normal,s1))∧Post ts0 (den a) ex s')):
 ∃ex s',r=some (ex,s')∧Post ts0 (den a0) ex s':=by
 subst hl
 refine qn8 μ den (fun a s=>I a∧At junk ts0 (hp a) (w a) s) (Post ts0) ?_ (μ a0) a0 _ (wi _) ⟨h0,hw⟩
 rintro a s ⟨hi,ha⟩
 obtain⟨j,H,d,rfl⟩:=ha.elim
 rcases hs a j H d hi with⟨a',s',h1,h2,h3,h4,h5⟩|h
 ·exact .inl ⟨a',s',h1,⟨h2,h3⟩,h4,h5⟩
 ·exact .inr h
end Go.Ab
namespace Go.Ab
def AtT (junk:List Nat) (ts0:List AVal) (w:List (Nat×AVal)) (ts:List AVal):Prop:=ts=upd (w++junk.map fun k=>(k,ts.getD k .undef)) ts0
theorem qlo {α R:Type} {f:St→Option (AEx×St)} {ts0:List AVal} {H0:qaa} {d0:List Nat} {r:Option (AEx×St)} (hl:lpC f ⟨ts0,H0,d0⟩=r)
 (junk:List Nat) (w:α→List (Nat×AVal)) (I:α→qaa→Prop) (μ:α→Nat) (den:α→R) (Post:List AVal→R→AEx→St→Prop) (a0:α) (h0:I a0 H0)
 (hw:AtT junk ts0 (w a0) ts0)
 (hs:∀a (j:Nat→AVal) h d,I a h→
  (∃a' s',f ⟨upd (w a++junk.map fun k=>(k,j k)) ts0,h,d⟩=some (.normal,s')∧I a' s'.heap∧AtT junk ts0 (w a') s'.tmps∧μ a'<μ a∧den a'=den a)∨
  (∃ex s',f ⟨upd (w a++junk.map fun k=>(k,j k)) ts0,h,d⟩=some (ex,s')∧(∀s1:St,(ex,s')≠(AEx.normal,s1))∧Post ts0 (den a) ex s')):
 ∃ex s',r=some (ex,s')∧Post ts0 (den a0) ex s':=by
 subst hl
 refine qn8 μ den (fun a s=>I a s.heap∧AtT junk ts0 (w a) s.tmps) (Post ts0) ?_ (μ a0) a0 _ (wi _) ⟨h0,hw⟩
 rintro a ⟨ts,h,d⟩ ⟨hi,ha⟩
 have ha':ts=upd (w a++junk.map fun k=>(k,ts.getD k .undef)) ts0:=ha
 rw[ha']
 rcases hs a (fun k=>ts.getD k .undef) h d hi with⟨a',s',h1,h2,h3,h4,h5⟩|h
 ·exact .inl ⟨a',s',h1,⟨h2,h3⟩,h4,h5⟩
 ·exact .inr h
def OutT (junk:List Nat) (ts0:List AVal) (w:List (Nat×AVal)) (I:qaa→Prop) (s:St):Prop:=AtT junk ts0 w s.tmps∧I s.heap
theorem OutT.elim {junk:List Nat} {ts0:List AVal} {w:List (Nat×AVal)} {I:qaa→Prop} {s:St} (h:OutT junk ts0 w I s):
 ∃(j:Nat→AVal) (H:qaa) (d:List Nat),I H∧s=⟨upd (w++junk.map fun k=>(k,j k)) ts0,H,d⟩:=by
 obtain⟨ts,h',d⟩:=s
 refine⟨fun k=>ts.getD k .undef,h',d,h.2,?_⟩
 have:=h.1
 unfold AtT at this
 simp only at this
 rw[←this]
def Grow (h:qaa) (v:AVal) (es:List (List AVal)) (T:TypeId):Prop:=(es=[]∧v= .slice [] .full)∨∃t,v= .slice es (.own t)∧h[t]? =some (.tok es.length T)
def Boxes (h h':qaa):Prop:=∀(k:Nat) (cs:List AVal),h[k]? =some (.box cs)→h'[k]? =some (.box cs)
theorem Boxes.refl (h:qaa):Boxes h h:=fun _ _ e=>e
theorem Boxes.trans {a b c:qaa} (h:Boxes a b) (k:Boxes b c):Boxes a c:=fun i cs e=>k i cs (h i cs e)
theorem Boxes.app (h l:qaa):Boxes h (h++l):=fun k cs e=>by
 rw[wb (wa.1 e).1];exact e
theorem Grow.app {h:qaa} {v:AVal} {es:List (List AVal)} {T:TypeId} (g:Grow h v es T) (l:qaa):Grow (h++l) v es T:=by
 rcases g with g|⟨t,hv,ht⟩
 ·exact .inl g
 ·exact .inr ⟨t,hv,by rw[wb (wa.1 ht).1];exact ht⟩
theorem qe8 {sz:Nat} {es:List (List AVal)} (h:∀c∈es,c.length=sz):qbi sz es=true:=by
 cases es with
 |nil=>rfl
 |cons c r=>simp[qbi,h c (by simp)]
theorem qg2 {P:Program} {t e sz:Nat} (ok:qfp P t e sz) {h:qaa} {v:AVal} {es fs:List (List AVal)} (g:Grow h v es e) (hl:es.length+fs.length≤qae) (h1:∀c∈es,c.length=sz) (h2:∀c∈fs,c.length=sz) (hne:¬fs=[]):
 ∃v' f,qkx P h t v (.slice fs .full)=some (v',f)∧Grow (f.of h) v' (es++fs) e∧Boxes h (f.of h):=by
 rcases g with⟨rfl,rfl⟩|⟨p,rfl,hp⟩
 ·refine⟨_,_,qg0 h ok hl (qe8 h1) (qe8 h2) hne,.inr ⟨_,rfl,?_⟩,Boxes.app _ _⟩
  simp[Eff.of]
 ·refine⟨_,_,qh3 h ok hl (qe8 h1) (qe8 h2) hne hp rfl,.inr ⟨_,rfl,?_⟩,?_⟩
  ·simp only[Eff.of]
   rw[List.getElem?_set_self (wa.1 hp).1]
   simp
  ·intro k cs hk
   simp only[Eff.of]
   by_cases hkp:p=k
   ·subst hkp;rw[hp]at hk;cases hk
   ·rw[we hkp];exact hk
end Go.Ab
