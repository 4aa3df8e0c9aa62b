/- Soundness of calls. -/
import Derived.Test.YtlfollkhlephmaaGreatDoorAbCode4
import Derived.LoopN
set_option linter.unusedSimpArgs false
set_option linter.unusedVariables false
set_option maxRecDepth 100000
set_option maxHeartbeats 4000000
open List renaming getElem?_eq_getElem→wa,mem_of_getElem?→wb,getElem?_eq_some_iff→wc,getElem?_append_left→wd,mem_filter→we,getElem_of_mem→wg,contains_eq_mem→wh,all_eq_true→wk,prefix_refl→wl,getElem?_take_of_lt→wm,nodup_nil→wo,length_take→wq,mem_cons→wu,getElem?_append_right→ww,filterMap_cons_some→w3,mem_append_right→w4,getElem?_eq_none→w5,mem_append_left→w6,getElem?_drop→w9,length_append→waa,nodup_append→wba,getElem?_map→wca,nodup_cons→wda,mem_append→wfa,mapM_cons→wga,mem_range→wha
open Array renaming getElem?_eq_getElem→wi,getElem?_toList→ws,getD_eq_getD_getElem?→wt
open Bool renaming and_eq_true→wj,false_eq_true→w8
open Option renaming isSome_iff_exists→wz,map_some→wea
open Nat renaming mul_le_mul_right→w7
namespace Go.Ab
variable {P:Program} {cmp:List TypeId} {call:Call}
inductive qlg (f:St→Option (AEx×St)):Nat→St→AEx×St→Prop
 |stop {s:St} {x:AEx×St} (e:f s=some x) (h:∀s',x≠(.normal,s')):qlg f 1 s x
 |again {n:Nat} {s s':St} {x:AEx×St} (e:f s=some (.normal,s')) (h:qlg f n s' x):qlg f (n+1) s x
def LpOk (lp:Lp):Prop:=∀f s x,lp f s=some x→∃n,qlg f n s x
theorem qez (n:Nat):LpOk (qa8 n):=by
 induction n with
 |zero=>intro f s x e;cases e
 |succ n ih=>
  intro f s x e
  unfold qa8 at e
  split at e
  ·rename_i s' hs
   obtain⟨m,hm⟩:=ih f s' x e
   exact⟨m+1,.again hs hm⟩
  ·rename_i h
   exact⟨1,.stop e (fun s' hx=>h s' (by rw[e,hx]))⟩
theorem Post.imp [Tabs P] {S:Sh} {w:World} {ds:List Deferred} {Q Q':Exit→Act→World→Prop} {x:AEx×St} (k:Post P S w ds Q x) (h:∀e a w,Q e a w→Q' e a w):Post P S w ds Q' x:=by
 intro S' w' a' st ht hd
 have:=k S' w' a' st ht hd
 obtain⟨e,s⟩:=x
 cases e with
 |normal=>exact h _ _ _ this
 |exit id=>exact h _ _ _ this
 |ret=>exact h _ _ _ this
 |pan u=>exact fun v hv=>h _ _ _ (this v hv)
theorem qhi {d:List Nat} {r:Option (AEx×St)} {x:AEx×St} (e:addD d r=some x):∃ex s,r=some (ex,s)∧x=(ex,⟨s.tmps,s.heap,s.dirty++d⟩):=by
 cases r with
 |none=>cases e
 |some y=>obtain⟨ex,s⟩:=y;cases e;exact⟨ex,s,rfl,rfl⟩
theorem qcr [Tabs P] (hmix:P.follows .mixedOrders=true) (hcmp:∀t∈cmp,qca P t=true) (hcall:qay P call) (hkeep:qaj call) {lp:Lp} (hlp:LpOk lp) {ds:List Deferred}:∀(c:Code) (s:St) (x:AEx×St),qag P cmp call lp c s=some x→
 ∀(a:Act) (S:Sh) (w:World) (Q:Exit→Act→World→Prop),WR P S s.heap w→VRl S s.tmps a.tmps.toList→a.defers=ds→Post P S w ds Q x→c.wp P Q a w:=by
 intro c
 induction c with
 |skip=>intro s x e a S w Q k ht hd hp;cases e;exact wp_skip (hp S w a (.refl k) (.inl ht) hd)
 |region id ops draw=>
  intro s x e a S w Q k ht hd hp
  cases draw with
  |false=>exact qna hcmp hcall hkeep k ht hd e hp
  |true=>
   simp only[qag]at e
   split at e
   ·rename_i hc
    simp only[wj]at hc
    obtain⟨ex,s1,he1,rfl⟩:=qhi e
    refine qic hmix hcmp hcall hkeep (s:=⟨s.tmps,s.heap,[]⟩) (Nat.le_refl _) hc.1 hc.2 k ht hd he1 ?_
    intro S' w' a' st ht' hd'
    exact hp S' w' a' st ht' hd'
   ·cases e
 |seq c1 c2 ih1 ih2=>
  intro s x e a S w Q k ht hd hp
  simp only[qag]at e
  refine wp_seq ?_
  split at e
  ·rename_i s' h1
   refine ih1 s _ h1 a S w _ k ht hd ?_
   intro S' w' a' st ht' hd'
   exact ih2 s' x e a' S' w' Q st.wr (ht'.vr (by simp)) hd' (hp.later st)
  ·rename_i r h1
   refine ih1 s x e a S w _ k ht hd ?_
   intro S' w' a' st ht' hd'
   have:=hp S' w' a' st ht' hd'
   obtain⟨ex,sx⟩:=x
   cases ex with
   |normal=>exact(h1 sx e).elim
   |exit id=>exact this
   |ret=>exact this
   |pan u=>exact this
 |cond c t f ih1 ih2=>
  intro s x e a S w Q k ht hd hp
  simp only[qag]at e
  split at e
  ·rename_i hc
   have hv:=qac ht hc
   generalize hve:a.eval c=vc at hv
   cases hv
   exact wp_cond_true hve (ih1 s x e a S w Q k ht hd hp)
  ·rename_i hc
   have hv:=qac ht hc
   generalize hve:a.eval c=vc at hv
   cases hv
   exact wp_cond_false hve (ih2 s x e a S w Q k ht hd hp)
  ·cases e
 |block id b ih=>
  intro s x e a S w Q k ht hd hp
  simp only[qag]at e
  refine wp_block ?_
  split at e
  ·rename_i j s' hb
   refine ih s _ hb a S w _ k ht hd ?_
   intro S' w' a' st ht' hd'
   show Exit.inBlock id Q (.exit j) a' w'
   simp only[Exit.inBlock]
   split at e
   ·rename_i hj
    cases e
    rw[if_pos hj]
    exact hp S' w' a' st (.inl (ht'.vr (by simp))) hd'
   ·rename_i hj
    cases e
    rw[if_neg hj]
    exact hp S' w' a' st ht' hd'
  ·rename_i hb
   refine ih s x e a S w _ k ht hd ?_
   intro S' w' a' st ht' hd'
   have:=hp S' w' a' st ht' hd'
   obtain⟨ex,sx⟩:=x
   cases ex with
   |normal=>exact this
   |exit j=>exact(hb j sx e).elim
   |ret=>exact this
   |pan u=>exact this
 |loop b ih=>
  intro s x e a S w Q k ht hd hp
  simp only[qag]at e
  obtain⟨n,hn⟩:=hlp _ _ _ e
  refine wp_loop_rounds n ?_
  clear e
  induction hn generalizing a S w with
  |stop he hx=>
   rename_i s x
   refine ih s x he a S w _ k ht hd ?_
   intro S' w' a' st ht' hd'
   have:=hp S' w' a' st ht' hd'
   obtain⟨ex,sx⟩:=x
   cases ex with
   |normal=>exact(hx sx rfl).elim
   |exit j=>exact this
   |ret=>exact this
   |pan u=>exact this
  |again he _ ih2=>
   rename_i n s s' x _
   refine ih s _ he a S w _ k ht hd ?_
   intro S' w' a' st ht' hd'
   exact ih2 a' S' w' st.wr (ht'.vr (by simp)) hd' (hp.later st)
 |rangeFunc=>intro s x e;cases e
 |exit id=>intro s x e a S w Q k ht hd hp;cases e;exact wp_exit (hp S w a (.refl k) (.inl ht) hd)
 |scope=>intro s x e;cases e
 |label=>intro s x e;cases e
 |goto=>intro s x e;cases e
 |ret=>intro s x e a S w Q k ht hd hp;cases e;exact wp_ret (hp S w a (.refl k) (.inl ht) hd)
 |refuse=>intro s x e;cases e
def qid (ts:Array Value):ResultVar→Sem Value
 | .tmp t=>pure (ts.getD t undef)
 | .cell a t=>do loadVar t (←asAddr (ts.getD a undef))
def qlh:List Value→Value
 |[x]=>x
 |xs=> .tuple xs.toArray
theorem qhj (fn:Func) (ts:Array Value):results fn ts=(do let vs ←fn.results.mapM (qid ts);pure (if h:vs.size=1 then vs[0]else .tuple vs)):=by
 unfold results
 have:(fun| .tmp t=>pure (ts.getD t undef)| .cell a t=>do loadVar t (←asAddr (ts.getD a undef)):ResultVar→Sem Value)=qid ts:=by
  funext r;cases r<;>rfl
 rfl
theorem qfm [Tabs P] {S:Sh} {s:St} {w:World} {ts:Array Value} (k:WR P S s.heap w) (ht:VRl S s.tmps ts.toList):∀(rs:List ResultVar) (vs:List AVal),resA P rs s=some vs→
 ∃xs:List Value,(rs.mapM (qid ts)).run P w= .ok xs w∧VRl S vs xs
 |[],vs,e=>by cases e;exact⟨[],rfl,.nil S⟩
 | .tmp t::r,vs,e=>by
  unfold resA at e
  split at e
  ·rename_i u l h1 h2
   cases e
   obtain⟨xs,g1,g2⟩:=qfm k ht r l h2
   obtain⟨v,hv,hr⟩:=ht.get h1
   rw[ws]at hv
   refine⟨v::xs,?_,.cons hr g2⟩
   have:ts.getD t undef=v:=by simp[wt,hv]
   simp only[wga,qid,Sem.run_bind,Sem.run_pure,Result.andThen_ok,this]
   rw[g1];rfl
  ·cases e
 | .cell p t::r,vs,e=>by
  unfold resA at e
  split at e
  ·rename_i q h1
   split at e
   ·rename_i u l h2 h3
    cases e
    obtain⟨xs,g1,g2⟩:=qfm k ht r l h3
    obtain⟨v,hv,hr⟩:=ht.get h1
    rw[ws]at hv
    obtain⟨y,hy,hyr⟩:=qjt k hr h2
    refine⟨y::xs,?_,.cons hyr g2⟩
    have e1:ts.getD p undef=v:=by simp[wt,hv]
    have e2:(do loadVar t (←asAddr v):Sem Value).run P w= .ok y w:=by
     unfold qb9 at h2
     cases hr with
     |ptr b o r hr=>simpa[Instr.loadAt,Instr.sureAddr,asAddr]using hy
     |eptr cs o r o0 vs h1 hp h2=>simpa[Instr.loadAt,Instr.sureAddr,asAddr]using hy
     |mptr b o n r o' h=>simpa[Instr.loadAt,Instr.sureAddr,asAddr]using hy
     |_=>simp at h2
    simp only[wga,qid,e1]
    rw[Sem.run_bind,e2]
    simp only[Result.andThen_ok,Sem.run_bind]
    rw[g1];rfl
   ·cases e
  ·cases e
end Go.Ab
namespace Go.Ab
variable {P:Program} {cmp:List TypeId} {call:Call}
def KeepS (s s':St):Prop:=KeepH s.heap s'.heap s'.dirty∧∀x∈s.dirty,x∈s'.dirty
theorem KeepS.refl (s:St):KeepS s s:=⟨.refl _ _,fun _ h=>h⟩
theorem KeepS.trans {a b c:St} (h:KeepS a b) (k:KeepS b c):KeepS a c:=⟨h.1.trans k.1 (fun x hx=>k.2 x hx) (fun _ h=>h),fun x hx=>k.2 x (h.2 x hx)⟩
theorem KeepS.eff {s:St} {f:Eff} {ts:List AVal} (h:qbo s.heap f):KeepS s ⟨ts,f.of s.heap,f.dirt++s.dirty⟩:=
 ⟨⟨h.1,fun b hb hd=>h.2 b hb (fun hm=>hd (by simp[hm]))⟩,fun x hx=>by simp[hx]⟩
theorem qnh (hc:qaj call) {o:Oper} {ts:List AVal} {h:qaa} {r:OR} (e:orH P o ts h (opA P cmp call o ts h)=some r):KeepR h r:=by
 rcases opH_inv e with e|⟨v,rfl,_⟩
 ·exact qcp hc e
 ·exact .refl _ _
theorem qge (hc:qaj call) (ops:List Oper):∀(l:List Oper) (s:St) (x:AEx×St),opsA P cmp call ops l s=some x→KeepS s x.2
 |[],s,x,e=>by cases e;exact .refl s
 |o::r,s,x,e=>by
  unfold opsA at e
  split at e
  ·split at e
   ·rename_i v f hv
    exact(KeepS.eff (qnh hc hv)).trans (qge hc ops r _ x e)
   ·rename_i v f hv
    cases e
    exact KeepS.eff (qnh hc hv)
   ·cases e
  ·have:=qge hc ops r _ x e
   exact this
  ·cases e
theorem qni {ops:List Oper} {j:Nat} {s:St} {x:AEx×St} (e:panD P cmp call ops j s=some x):∃o v f,ops[j]? =some o∧qak ops o s.tmps=some true∧opA P cmp call o s.tmps s.heap=some (.pan v f)∧qe4 ops j=true∧x=(.pan v,⟨[],f.of s.heap,f.dirt++s.dirty⟩):=by
 unfold panD at e
 split at e
 ·cases e
 ·rename_i o ho
  split at e
  ·rename_i hw
   split at e
   ·rename_i v f hv
    split at e
    ·rename_i hp
     cases e
     exact⟨o,v,f,ho,hw,hv,hp,rfl⟩
    ·cases e
   ·cases e
  ·cases e
theorem qie (hc:qaj call) {lim:Nat} (ops:List Oper):∀(l:List Nat) (s:St) (x:AEx×St),opsX P cmp call lim ops l s=some x→KeepS s x.2
 |[],s,x,e=>by cases e;exact .refl s
 |j::r,s,x,e=>by
  simp only[opsX]at e
  split at e
  ·rename_i s1 hs
   obtain⟨o,_,hcase⟩:=qbe hs
   rcases hcase with⟨_,v,f,hv,_,rfl⟩|⟨_,rfl⟩
   ·exact(KeepS.eff (qcp hc hv)).trans (qie hc ops r _ x e)
   ·have:=qie hc ops r _ x e
    exact this
  ·obtain⟨o,v,f,_,_,hv,_,rfl⟩:=qni e
   exact KeepS.eff (qcp hc hv)
theorem qbs (hc:qaj call) {lp:Lp} (hlp:LpOk lp):∀(c:Code) (s:St) (x:AEx×St),qag P cmp call lp c s=some x→KeepS s x.2:=by
 intro c
 induction c with
 |skip=>intro s x e;cases e;exact .refl s
 |region id ops draw=>
  intro s x e
  cases draw with
  |false=>exact qge hc _ _ s x e
  |true=>
   simp only[qag]at e
   split at e
   ·obtain⟨ex,s1,he1,rfl⟩:=qhi e
    have h1:=qie hc _ _ _ _ he1
    exact⟨⟨h1.1.1,fun b hb hd=>h1.1.2 b hb (fun hm=>hd (w6 _ hm))⟩,fun x hx=>w4 _ hx⟩
   ·cases e
 |seq c1 c2 ih1 ih2=>
  intro s x e
  simp only[qag]at e
  split at e
  ·rename_i s' h1;exact(ih1 s _ h1).trans (ih2 s' x e)
  ·exact ih1 s x e
 |cond c t f ih1 ih2=>
  intro s x e
  simp only[qag]at e
  split at e
  ·exact ih1 s x e
  ·exact ih2 s x e
  ·cases e
 |block id b ih=>
  intro s x e
  simp only[qag]at e
  split at e
  ·rename_i j s' hb
   have:=ih s _ hb
   split at e<;>(cases e;exact this)
  ·exact ih s x e
 |loop b ih=>
  intro s x e
  simp only[qag]at e
  obtain⟨n,hn⟩:=hlp _ _ _ e
  clear e
  induction hn with
  |stop he hx=>exact ih _ _ he
  |again he _ ih2=>exact(ih _ _ he).trans ih2
 |rangeFunc=>intro s x e;cases e
 |exit id=>intro s x e;cases e;exact .refl s
 |scope=>intro s x e;cases e
 |label=>intro s x e;cases e
 |goto=>intro s x e;cases e
 |ret=>intro s x e;cases e;exact .refl s
 |refuse=>intro s x e;cases e
theorem qd9 {l:List Nat} {x:Nat}:x∈qcu l↔x∈l:=by
 induction l with
 |nil=>rfl
 |cons b r ih=>
  simp only[qcu]
  split
  ·rename_i hc
   rw[wh]at hc
   simp only[decide_eq_true_eq]at hc
   rw[ih,wu]
   constructor
   ·exact .inr
   ·rintro(rfl|h)
    ·exact ih.1 hc
    ·exact h
  ·rw[wu,wu,ih]
theorem qjz (l:List Nat):(qcu l).Nodup:=by
 induction l with
 |nil=>exact wo
 |cons b r ih=>
  simp only[qcu]
  split
  ·exact ih
  ·rename_i hc
   refine wda.2 ⟨?_,ih⟩
   rw[wh]at hc
   simpa using hc
theorem qdt (n:Nat) (h:qaa):∀(d:List Nat) (k:qaa) (mv:List Nat) (k':qaa) (mv':List Nat),qd4 n h d k mv=some (k',mv')→
 k'.length=k.length∧∀b,b∉d→k'[b]? =k[b]?
 |[],k,mv,k',mv',e=>by cases e;exact⟨rfl,fun _ _=>rfl⟩
 |b::r,k,mv,k',mv',e=>by
  simp only[qd4]at e
  split at e
  ·obtain⟨h1,h2⟩:=qdt n h r _ _ k' mv' e
   refine⟨by rw[h1];simp,fun c hc=> ?_⟩
   rw[h2 c (fun hm=>hc (by simp[hm])),List.getElem?_set_ne (fun e=>hc (by simp[e]))]
  ·cases e
theorem qj0 {v:AVal} {h0 h:qaa} {d:List Nat} {r:AVal×Eff} (hd:∀b,b<h0.length→b∉d→h[b]? =h0[b]?) (hl0:h0.length≤h.length) (e:qe9 h0.length v h d=some r):qbo h0 r.2∧(r.2= .same→lowA h0.length r.1=true):=by
 unfold qe9 at e
 simp only at e
 split at e
 ·rename_i hlow
  split at e
  ·cases e;exact⟨KeepH.refl _ _,fun _=>hlow⟩
  ·split at e
   ·rename_i k mv hl
    cases e
    obtain⟨h1,h2⟩:=qdt _ _ _ _ _ _ _ hl
    have hkl:k.length=h0.length:=by rw[h1,wq];omega
    refine⟨⟨by simp[Eff.of,hkl],fun b hb hm=> ?_⟩,fun h=>by cases h⟩
    simp only[Eff.of]
    rw[wd (by omega),h2 b hm,wm hb]
    exact hd b hb hm
   ·cases e
 ·cases e
theorem qf2 (p:Nat→Bool) (h:qaa) (d:List Nat) (b:Nat):(frzH p h d)[b]? =(h[b]?).map (frzB p h d b):=by
 unfold frzH
 rw[List.getElem?_mapIdx]
theorem qj1 (p:Nat→Bool) (h:qaa) (d:List Nat):(frzH p h d).length=h.length:=by unfold frzH;simp
theorem qgf {p:Nat→Bool} {h:qaa} {d:List Nat} {b:Nat} (hb:p b=false) (hd:b∉d):(frzH p h d)[b]? =h[b]? :=by
 rw[qf2]
 cases h[b]? with
 |none=>rfl
 |some x=>
  simp only[wea,Option.some.injEq]
  cases x with
  |box cs=>
   have:d.contains b=false:=by rw[wh];simpa using hd
   simp only[frzB,this,w8,if_false]
  |arr q cs l e=>simp only[frzB,hb,w8,if_false]
  |tok l e=>rfl
  |map ks vs=>rfl
theorem qf3 {v:AVal} {h0 h:qaa} {d:List Nat} (hk:KeepH h0 h d):qbo h0 (qav h0.length v h d).2∧((qav h0.length v h d).2= .same→lowA h0.length (qav h0.length v h d).1=true):=by
 have hd:∀b,b<h0.length→b∉qcu (d.filter (· <h0.length))→h[b]? =h0[b]? :=fun b hb hm=>hk.2 b hb (fun hm'=>hm (qd9.2 (we.2 ⟨hm',by simpa using hb⟩)))
 unfold qav
 simp only
 split
 ·rename_i r hr
  exact qj0 hd hk.1 hr
 ·split
  ·split
   ·rename_i r hr
    exact qj0 (fun b hb hm=>by rw[qgf (by simp;omega) hm];exact hd b hb hm) (by rw[qj1];exact hk.1) hr
   ·exact⟨⟨hk.1,hd⟩,fun h=>by cases h⟩
  ·exact⟨⟨hk.1,hd⟩,fun h=>by cases h⟩
theorem qj2 {n:Nat} {v:AVal} {h0 h:qaa} {d:List Nat} (hn:n=h0.length) (hk:KeepH h0 h d):qbo h0 (qav n v h d).2:=by
 subst hn
 exact(qf3 hk).1
theorem qif {v:AVal} {h0 h:qaa} {d:List Nat} (hk:KeepH h0 h d):qbo h0 (qav h0.length v h d).2∧LowC h0 (.ret (qav h0.length v h d).1 (qav h0.length v h d).2):=
 ⟨qj2 rfl hk,fun u hu=>by
  simp only[CR.ret.injEq]at hu
  rw[←hu.1];exact(qf3 hk).2 hu.2⟩
theorem qmc {n:Nat} {l:List Nat} (hl:l.Nodup):(List.range n++l.filter (n≤ ·)).Nodup:=by
 refine wba.2 ⟨List.nodup_range,List.Nodup.sublist List.filter_sublist hl,fun a ha b hb e=> ?_⟩
 subst e
 have h1:=wha.1 ha
 have h2:=(we.1 hb).2
 simp only[decide_eq_true_eq]at h2
 omega
theorem qea {n:Nat} {l:List Nat} (hn:(List.range n++l).Nodup) {b:Nat} (hb:b<n):(List.range n++l)[b]? =some b∧(List.range n++l).idxOf b=b:=by
 have h1:(List.range n++l)[b]? =some b:=by rw[wd (by simpa using hb)];simp[hb]
 exact⟨h1,qb3 hn h1⟩
theorem renB_id {σ:Nat→Nat} {x:Blk} (h:∀c∈qbv x,σ c=c):renB σ x=x:=by
 cases x with
 |box cs=>simp only[renB,qam cs h]
 |tok=>rfl
 |arr p cs l e=>simp only[renB,qam cs h]
 |map ks vs=>simp only[renB,qam ks (fun c hc=>h c (w6 _ hc)),qam vs (fun c hc=>h c (w4 _ hc))]
theorem lowB_at {n:Nat} {h:qaa} {d:List Nat} (e:lowB n h d=true) {b:Nat} (hb:b<n) (hd:b∉d):∃x,h[b]? =some x∧∀c∈qbv x,c<n:=by
 unfold lowB at e
 have h1:=wk.1 e b (wha.2 hb)
 have h2:d.contains b=false:=by rw[wh];simpa using hd
 rw[h2,Bool.false_or]at h1
 split at h1
 ·rename_i x hx
  exact⟨x,hx,fun c hc=>by simpa using wk.1 h1 c hc⟩
 ·cases h1
theorem qom {v:AVal} {h0 h:qaa} {d:List Nat} {r:AVal×Eff} (hd:∀b,b<h0.length→b∉d→h[b]? =h0[b]?) (hdl:∀b∈d,b<h0.length) (e:qee h0.length v h d=some r):qbo h0 r.2∧(r.2= .same→lowA h0.length r.1=true):=by
 unfold qee at e
 simp only at e
 have hn:(List.range h0.length++(qaw h 4096 (refs v++d) []).filter (h0.length≤ ·)).Nodup:=qmc (qdh h _ _ _ wo)
 generalize(qaw h 4096 (refs v++d) []).filter (h0.length≤ ·)=keep at e hn
 split at e
 ·rename_i hc
  simp only[wj]at hc
  obtain⟨ok,hv⟩:=qfv hn hc.1
  have kp:qbo h0 (.heap (subH h (List.range h0.length++keep)) d):=by
   refine⟨by simp[Eff.of,subH],fun b hb hm=> ?_⟩
   obtain⟨x,hx,hl⟩:=lowB_at hc.2 hb hm
   show(subH h (List.range h0.length++keep))[b]? =_
   rw[qet (qea hn hb).1 hx,←hd b hb hm,hx]
   rw[renB_id (fun c hc=>(qea hn (hl c hc)).2)]
  split at e
  ·cases e
   refine⟨KeepH.refl _ _,fun _=> ?_⟩
   unfold lowA
   refine wk.2 (fun b hb=> ?_)
   have:=hv b (by simpa[qaf]using hb)
   simpa using this
  ·cases e
   exact⟨kp,fun h=>by cases h⟩
 ·cases e
theorem qnj {v:AVal} {h0 h:qaa} {d:List Nat} (hk:KeepH h0 h d):qbo h0 (qdk h0.length v h d).2∧((qdk h0.length v h d).2= .same→lowA h0.length (qdk h0.length v h d).1=true):=by
 have hd:∀b,b<h0.length→b∉qcu (d.filter (· <h0.length))→h[b]? =h0[b]? :=fun b hb hm=>hk.2 b hb (fun hm'=>hm (qd9.2 (we.2 ⟨hm',by simpa using hb⟩)))
 have hdl:∀b∈qcu (d.filter (· <h0.length)),b<h0.length:=fun b hb=>by
  have:=(we.1 (qd9.1 hb)).2
  simpa using this
 unfold qdk
 simp only
 split
 ·rename_i r hr
  exact qom (fun b hb hm=>by rw[qgf (by simp;omega) (by simp)];exact hd b hb hm) hdl hr
 ·exact⟨⟨hk.1,hd⟩,fun h=>by cases h⟩
theorem qf4 {big:Bool} {v:AVal} {h0 h:qaa} {d:List Nat} (hk:KeepH h0 h d):qbo h0 (qb1 big h0.length v h d).2∧((qb1 big h0.length v h d).2= .same→lowA h0.length (qb1 big h0.length v h d).1=true):=by
 unfold qb1
 split
 ·exact qnj hk
 ·exact qf3 hk
theorem qig {big:Bool} {v:AVal} {h0 h:qaa} {d:List Nat} (hk:KeepH h0 h d):qbo h0 (qb1 big h0.length v h d).2∧LowC h0 (.ret (qb1 big h0.length v h d).1 (qb1 big h0.length v h d).2):=
 ⟨(
  qf4 hk).1,fun u hu=>by
  simp only[CR.ret.injEq]at hu
  rw[←hu.1];exact(qf4 hk).2 hu.2⟩
theorem qkg (hc:qaj call) {lp:Lp} (hlp:LpOk lp):qaj (fnA P cmp call lp):=by
 intro f args h r e
 unfold fnA at e
 split at e
 ·cases e
 ·split at e
  ·cases e
  ·split at e
   ·rename_i s hs
    split at e
    ·cases e
     exact qig (qbs hc hlp _ _ _ hs).1
    ·cases e
   ·rename_i s hs
    split at e
    ·cases e
     exact qig (qbs hc hlp _ _ _ hs).1
    ·cases e
   ·rename_i v s hs
    cases e
    exact⟨(qf4 (qbs hc hlp _ _ _ hs).1).1,fun u hu=>by cases hu⟩
   ·cases e
end Go.Ab
namespace Go.Ab
variable {P:Program} {cmp:List TypeId} {call:Call}
def Sh.cut (S:Sh) (n:Nat) (mv:List Nat):Sh:=
 { M:=S.M,ρ:=fun b=>if b<n then S.ρ b else none,τ:=fun b=>if b<n then S.τ b else(mv[b-n]?).bind S.τ,F:=S.F }
theorem VR.cut {S:Sh} {n:Nat} {mv:List Nat} {a:AVal} {v:Value} (k:VR S a v) (h:∀b∈refs a,b<n):VR (S.cut n mv) a v:=by
 have:=k.ren (S:=S) (S':=S.cut n mv) (fun x=>x) (fun _ _ h=>h) (fun b hb=>by
  have hb':=h b hb
  exact⟨fun r hr=>by simp only[Sh.cut];rw[if_pos hb'];exact hr,fun x hx=>by simp only[Sh.cut];rw[if_pos hb'];exact hx⟩)
 rwa [qc5 a (fun _ _=>rfl)]at this
theorem VR.cutA {S:Sh} {n:Nat} {mv:List Nat} {a:AVal} {v:Value} (k:VR S a v) (h:lowA n a=true):VR (S.cut n mv) a v:=
 k.cut (fun b hb=>by
  unfold lowA at h
  have:=wk.1 h b hb
  simpa using this)
theorem qmd {a:AVal} (h:qaq a=true):refs a=[]:=by
 unfold qaq at h;simp only[wj]at h;simpa using h.2
theorem VR.refs_there {S:Sh} {a:AVal} {v:Value} (k:VR S a v):∀b∈refs a,(∃r,S.ρ b=some r)∨∃x,S.τ b=some x:=by
 induction k with
 |ptr b o r e=>intro c hc;simp[refs]at hc;subst hc;exact .inl ⟨r,e⟩
 |slice es tk ad m cap esz vs hn hc hcm hsp hsz h1 hp _ ht ih=>
  intro c hc
  cases tk with
  |own t=>
   simp[refs]at hc;subst hc
   obtain⟨r,c,l,t1,_⟩:=ht
   exact .inr ⟨_,t1⟩
  |free=>simp[refs]at hc
  |full=>simp[refs]at hc
  |zero=>simp[refs]at hc
 |ms es b n m ad cap _ hn hm hc' hcm ht hsp ih=>
  intro c hc
  simp[refs]at hc;subst hc
  obtain⟨r,c,l,t1,_⟩:=ht
  exact .inr ⟨_,t1⟩
 |mptr b o n r o' e=>
  intro c hc
  simp[refs]at hc;subst hc
  obtain⟨r,c,l,t1,_⟩:=e
  exact .inr ⟨_,t1⟩
 |mref b r e=>intro c hc;simp[refs]at hc;subst hc;exact .inl ⟨r,e⟩
 |snil tk e=>intro c hc;rcases e with rfl|rfl<;>simp[refs]at hc
 |func f x y p q hx hy _ _ i1 i2=>
  intro c hc
  simp only[refs,wfa,qc1]at hc
  rcases hc with⟨a,ha,hb⟩|⟨a,ha,hb⟩
  ·obtain⟨j,hj,rfl⟩:=wg ha
   exact i1 j _ _ (wa hj) (wi (by omega)) c hb
  ·obtain⟨j,hj,rfl⟩:=wg ha
   exact i2 j _ _ (wa hj) (wi (by omega)) c hb
 |iface t a v _ ih=>intro c hc;exact ih c (by simpa[refs]using hc)
 |agg x p hx _ ih=>
  intro c hc
  simp only[refs,qc1]at hc
  obtain⟨a,ha,hb⟩:=hc
  obtain⟨j,hj,rfl⟩:=wg ha
  exact ih j _ _ (wa hj) (wi (by omega)) c hb
 |tuple x p hx _ ih=>
  intro c hc
  simp only[refs,qc1]at hc
  obtain⟨a,ha,hb⟩:=hc
  obtain⟨j,hj,rfl⟩:=wg ha
  exact ih j _ _ (wa hj) (wi (by omega)) c hb
 |_=>intro c hc;simp[refs]at hc
theorem VR.cut_old {S0 S:Sh} {n:Nat} {mv:List Nat} (hρ:∀b r,S0.ρ b=some r→b<n) (hτ:∀b x,S0.τ b=some x→b<n) {a:AVal} {v:Value} (k:VR S a v) {v0:Value} (k0:VR S0 a v0):VR (S.cut n mv) a v:=
 k.cut (fun b hb=>by
  rcases k0.refs_there b hb with⟨r,h⟩|⟨x,h⟩
  ·exact hρ b r h
  ·exact hτ b x h)
def Moved (n:Nat) (mv:List Nat) (a a':AVal):Prop:=
 (a'=a∧lowA n a=true)∨(∃es t i,a= .slice es (.own t)∧mv[i]? =some t∧a'= .slice es (.own (n+i)))∨∃es t,a= .slice es (.own t)∧a'= .slice es .free
theorem Moved.mono {n:Nat} {mv mv':List Nat} (h:mv<+:mv') {a a':AVal} (k:Moved n mv a a'):Moved n mv' a a':=by
 rcases k with k|⟨es,t,i,h1,h2,h3⟩|k
 ·exact .inl k
 ·obtain⟨r,rfl⟩:=h
  exact .inr (.inl ⟨es,t,i,h1,by rw[wd (wc.1 h2).1];exact h2,h3⟩)
 ·exact .inr (.inr k)
theorem Moved.vr {S:Sh} {n:Nat} {mv:List Nat} {a a':AVal} {v:Value} (k:Moved n mv a a') (h:VR S a v):VR (S.cut n mv) a' v:=by
 rcases k with⟨rfl,hl⟩|⟨es,t,i,rfl,h2,rfl⟩|⟨es,t,rfl,rfl⟩
 ·exact h.cutA hl
 ·cases h with
  |slice _ _ ad m cap esz vs hn hc hcm hsp hsz h1 hp g2 ht=>
   refine .slice es _ ad m cap esz vs hn hc hcm hsp hsz h1 hp (fun i c j a hi hj=>(g2 i c j a hi hj).cut (fun b hb=>by rw[qmd (hp c (wb hi) a (wb hj))]at hb;cases hb)) ?_
   obtain⟨r,c,l,t1,t2⟩:=ht
   refine⟨r,c,l,?_,t2⟩
   simp only[Sh.cut]
   rw[if_neg (by omega),show n+i-n=i by omega,h2]
   exact t1
  |snil _ e=>rcases e with e|e<;>cases e
 ·cases h with
  |slice _ _ ad m cap esz vs hn hc hcm hsp hsz h1 hp g2 ht=>
   exact .slice es _ ad m cap esz vs hn hc hcm hsp hsz h1 hp (fun i c j a hi hj=>(g2 i c j a hi hj).cut (fun b hb=>by rw[qmd (hp c (wb hi) a (wb hj))]at hb;cases hb)) trivial
  |snil _ e=>rcases e with e|e<;>cases e
structure MvOk (n:Nat) (h:qaa) (mv:List Nat):Prop where
 nd:mv.Nodup
 tk:∀t∈mv,n≤t∧∃k e,h[t]? =some (.tok k e)
theorem qdu {n:Nat} {h:qaa}:∀(cs:List AVal) (mv:List Nat) (l:List AVal) (mv':List Nat),qbq n h cs mv=some (l,mv')→MvOk n h mv→
 mv<+:mv'∧MvOk n h mv'∧l.length=cs.length∧∀(j:Nat) (a':AVal),l[j]? =some a'→∃a,cs[j]? =some a∧Moved n mv' a a'
 |[],mv,l,mv',e,hk=>by cases e;exact⟨wl _,hk,rfl,fun j a' hj=>by simp at hj⟩
 |c::r,mv,l,mv',e,hk=>by
  have step:∀(mv1:List Nat) (l':List AVal) (c':AVal),mv<+:mv1→MvOk n h mv1→qbq n h r mv1=some (l',mv')→Moved n mv1 c c'→l=c'::l'→
   mv<+:mv'∧MvOk n h mv'∧l.length=(c::r).length∧∀(j:Nat) (a':AVal),l[j]? =some a'→∃a,(c::r)[j]? =some a∧Moved n mv' a a':=by
   intro mv1 l' c' hp hk1 hr hm hl
   subst hl
   obtain⟨g1,g2,g3,g4⟩:=qdu r mv1 l' mv' hr hk1
   refine⟨hp.trans g1,g2,by simp[g3],fun j a' hj=> ?_⟩
   cases j with
   |zero=>simp at hj;subst hj;exact⟨c,rfl,hm.mono g1⟩
   |succ j=>exact g4 j a' (by simpa using hj)
  have plain:∀(hl:lowA n c=true),(match qbq n h r mv with|some (l,mv')=>some (c::l,mv')|none=>none)=some (l,mv')→
   mv<+:mv'∧MvOk n h mv'∧l.length=(c::r).length∧∀(j:Nat) (a':AVal),l[j]? =some a'→∃a,(c::r)[j]? =some a∧Moved n mv' a a':=by
   intro hl e
   split at e
   ·rename_i l1 mv1 h1
    cases e
    exact step mv l1 c (wl _) hk h1 (.inl ⟨rfl,hl⟩) rfl
   ·cases e
  have other:(if lowA n c=true then(match qbq n h r mv with|some (l,mv')=>some (c::l,mv')|none=>none)else none)=some (l,mv')→
   mv<+:mv'∧MvOk n h mv'∧l.length=(c::r).length∧∀(j:Nat) (a':AVal),l[j]? =some a'→∃a,(c::r)[j]? =some a∧Moved n mv' a a':=by
   intro e
   split at e
   ·rename_i hl;exact plain hl e
   ·cases e
  cases c with
  |slice es tk=>
   cases tk with
   |own t=>
    simp only[qbq]at e
    split at e
    ·rename_i ht
     exact plain (by simpa[lowA,refs]using ht) e
    ·rename_i ht
     split at e
     ·rename_i k e' hb
      split at e
      ·rename_i hc
       simp only[wj,decide_eq_true_eq,Bool.not_eq_true',wh,decide_eq_false_iff_not]at hc
       split at e
       ·rename_i l1 mv1 h1
        cases e
        refine step (mv++[t]) l1 _ (List.prefix_append _ _) ⟨?_,?_⟩ h1 (.inr (.inl ⟨es,t,mv.length,rfl,by simp,rfl⟩)) rfl
        ·rw[wba]
         refine⟨hk.nd,by simp,fun a ha b hb=> ?_⟩
         simp at hb;subst hb
         exact fun e=>hc.2 (e▸ha)
        ·intro q hq
         rcases wfa.1 hq with hq|hq
         ·exact hk.tk q hq
         ·simp at hq;subst hq;exact⟨by omega,k,e',hb⟩
       ·cases e
      ·split at e
       ·rename_i l1 mv1 h1
        cases e
        exact step mv l1 _ (wl _) hk h1 (.inr (.inr ⟨es,t,rfl,rfl⟩)) rfl
       ·cases e
     ·cases e
   |_=>simp only[qbq]at e;exact other e
  |_=>simp only[qbq]at e;exact other e
def qkh (n:Nat) (h:qaa) (mv:List Nat) (b:Nat) (x:Blk):Prop:=
 (∃cs l,h[b]? =some (.box cs)∧x= .box l∧l.length=cs.length∧∀(j:Nat) (a':AVal),l[j]? =some a'→∃a,cs[j]? =some a∧Moved n mv a a')∨(∃k e,h[b]? =some (.tok k e)∧x= .tok k e)∨
 (∃p cs l k e,h[b]? =some (.arr p cs k e)∧x= .arr p l k e∧l.length=cs.length∧∀(j:Nat) (a':AVal),l[j]? =some a'→∃a,cs[j]? =some a∧Moved n mv a a')∨
 (∃ks vs l,h[b]? =some (.map ks vs)∧x= .map ks l∧(∀a∈ks,lowA n a=true)∧l.length=vs.length∧∀(j:Nat) (a':AVal),l[j]? =some a'→∃a,vs[j]? =some a∧Moved n mv a a')
theorem qls {n:Nat} {h:qaa} {b:Nat} {mv mv':List Nat} {x:Blk} (e:qj7 n h b mv=some (x,mv')) (hk:MvOk n h mv):mv<+:mv'∧MvOk n h mv'∧qkh n h mv' b x:=by
 unfold qj7 at e
 split at e
 ·rename_i cs hb
  split at e
  ·rename_i l mv1 h1
   cases e
   obtain⟨g1,g2,g3,g4⟩:=qdu cs mv l mv' h1 hk
   exact⟨g1,g2,.inl ⟨cs,l,hb,rfl,g3,g4⟩⟩
  ·cases e
 ·rename_i p cs k e' hb
  split at e
  ·rename_i l mv1 h1
   cases e
   obtain⟨g1,g2,g3,g4⟩:=qdu cs mv l mv' h1 hk
   exact⟨g1,g2,.inr (.inr (.inl ⟨p,cs,l,k,e',hb,rfl,g3,g4⟩))⟩
  ·cases e
 ·rename_i ks vs hb
  split at e
  ·rename_i hlow
   split at e
   ·rename_i l mv1 h1
    cases e
    obtain⟨g1,g2,g3,g4⟩:=qdu vs mv l mv' h1 hk
    exact⟨g1,g2,.inr (.inr (.inr ⟨ks,vs,l,hb,rfl,wk.1 hlow,g3,g4⟩))⟩
   ·cases e
  ·cases e
 ·rename_i k e' hb
  cases e
  exact⟨wl _,hk,.inr (.inl ⟨k,e',hb,rfl⟩)⟩
 ·cases e
theorem qgg {n:Nat} {h:qaa}:∀(d:List Nat) (k:qaa) (mv:List Nat) (k':qaa) (mv':List Nat),qd4 n h d k mv=some (k',mv')→MvOk n h mv→d.Nodup→(∀b∈d,b<k.length)→
 mv<+:mv'∧MvOk n h mv'∧∀b∈d,∃x,k'[b]? =some x∧qkh n h mv' b x
 |[],k,mv,k',mv',e,hk,_,_=>by cases e;exact⟨wl _,hk,fun b hb=>by cases hb⟩
 |b::r,k,mv,k',mv',e,hk,hnd,hlt=>by
  simp only[qd4]at e
  split at e
  ·rename_i x mv1 h1
   obtain⟨g1,g2,g3⟩:=qls h1 hk
   obtain⟨hbr,hnd'⟩:=wda.1 hnd
   obtain⟨q1,q2,q3⟩:=qgg r _ mv1 k' mv' e g2 hnd' (fun c hc=>by have:=hlt c (by simp[hc]);simpa using this)
   refine⟨g1.trans q1,q2,fun c hc=> ?_⟩
   rcases wu.1 hc with rfl|hc
   ·refine⟨x,?_,?_⟩
    ·rw[(qdt n h r _ _ _ _ e).2 c hbr,List.getElem?_set_self (hlt c (by simp))]
    ·rcases g3 with⟨cs,l,h2,h3,h4,h5⟩|g3|⟨p,cs,l,k,e,h2,h3,h4,h5⟩|⟨ks,vs,l,h2,h3,h8,h4,h5⟩
     ·exact .inl ⟨cs,l,h2,h3,h4,fun j a' hj=>let⟨a,h6,h7⟩:=h5 j a' hj;⟨a,h6,h7.mono q1⟩⟩
     ·exact .inr (.inl g3)
     ·exact .inr (.inr (.inl ⟨p,cs,l,k,e,h2,h3,h4,fun j a' hj=>let⟨a,h6,h7⟩:=h5 j a' hj;⟨a,h6,h7.mono q1⟩⟩))
     ·exact .inr (.inr (.inr ⟨ks,vs,l,h2,h3,h8,h4,fun j a' hj=>let⟨a,h6,h7⟩:=h5 j a' hj;⟨a,h6,h7.mono q1⟩⟩))
   ·exact q3 c hc
  ·cases e
theorem qhy {α β:Type} {f:α→Option β}:∀(l:List α),(∀a∈l,(f a).isSome=true)→∀j:Nat,(l.filterMap f)[j]? =(l[j]?).bind f
 |[],_,j=>by simp
 |a::l,h,j=>by
  obtain⟨b,hb⟩:=wz.1 (h a (by simp))
  rw[w3 hb]
  cases j with
  |zero=>simp[hb]
  |succ j=>simpa using qhy l (fun x hx=>h x (by simp[hx])) j
end Go.Ab
namespace Go.Ab
variable {P:Program} {cmp:List TypeId} {call:Call}
theorem cut_wr [Tabs P] {S S':Sh} {h h' h2:qaa} {w w':World} {mv:List Nat} (k:WR P S h w) (k':WR P S' h' w') (hx:Ex S w.heap.size S') (hmv:MvOk h.length h' mv)
 (hlen:h2.length=h.length+mv.length) 
 (hlow:∀b x,b<h.length→h2[b]? =some x→(h'[b]? =some x∧h[b]? =some x)∨qkh h.length h' mv b x)
 (hhigh:∀(j t:Nat),mv[j]? =some t→h2[h.length+j]? =h'[t]?):
 Ex S w.heap.size (S'.cut h.length mv)∧WR P (S'.cut h.length mv) h2 w':=by
 have dρ:∀b r,S.ρ b=some r→b<h.length:=fun b r hb=>(k.lt hb).1
 have dτ:∀b x,S.τ b=some x→b<h.length:=fun b x hb=>(k.ltτ (r:=x.1) (c:=x.2.1) (l:=x.2.2) hb).1
 have cρ:∀b r,(S'.cut h.length mv).ρ b=some r→b<h.length∧S'.ρ b=some r:=by
  intro b r hb
  simp only[Sh.cut]at hb
  split at hb
  ·exact⟨‹_›,hb⟩
  ·cases hb
 have cτ:∀b x,(S'.cut h.length mv).τ b=some x→(b<h.length∧S'.τ b=some x)∨∃j t,b=h.length+j∧mv[j]? =some t∧S'.τ t=some x:=by
  intro b x hb
  simp only[Sh.cut]at hb
  split at hb
  ·exact .inl ⟨‹_›,hb⟩
  ·rename_i hn
   cases hm:mv[b-h.length]? with
   |none=>simp[hm]at hb
   |some t=>simp[hm]at hb;exact .inr ⟨b-h.length,t,by omega,hm,hb⟩
 have low:∀b x,b<h.length→h2[b]? =some x→∃x',h'[b]? =some x'∧x.isR=x'.isR∧x.tl=x'.tl∧BR P (S'.cut h.length mv) w' b x:=by
  intro b x hb hxb
  have cR:∀r,S'.ρ b=some r→(S'.cut h.length mv).ρ b=some r:=fun r hr=>by simp only[Sh.cut];rw[if_pos hb];exact hr
  have cT:∀y,S'.τ b=some y→(S'.cut h.length mv).τ b=some y:=fun y hy=>by simp only[Sh.cut];rw[if_pos hb];exact hy
  have mvl:∀{cs l:List AVal} {C:List Value},l.length=cs.length→(∀(j:Nat) (a':AVal),l[j]? =some a'→∃a,cs[j]? =some a∧Moved h.length mv a a')→VRl S' cs C→VRl (S'.cut h.length mv) l C:=by
   intro cs l C hl hm hC
   refine⟨by rw[hl];exact hC.1,fun j u v hu hv=> ?_⟩
   obtain⟨a,ha,hma⟩:=hm j u hu
   exact hma.vr (hC.2 j a v ha hv)
  rcases hlow b x hb hxb with⟨h1,h0⟩|⟨cs,l,h1,rfl,hl,hm⟩|⟨q,e,h1,rfl⟩|⟨p,cs,l,q,e,h1,rfl,hl,hm⟩|⟨ks,vs,l,h1,rfl,hks,hl,hm⟩
  ·refine⟨x,h1,rfl,rfl,?_⟩
   have old:∀{l:List AVal} {X0 X:List Value},VRl S l X0→VRl S' l X→VRl (S'.cut h.length mv) l X:=by
    intro l X0 X h0 hC
    refine⟨hC.1,fun j u v hu hv=> ?_⟩
    obtain⟨v0,_,hr0⟩:=h0.get hu
    exact(hC.2 j u v hu hv).cut_old dρ dτ hr0
   cases x with
   |box cs=>
    obtain⟨r0,C0,T0,_,_,g3,_⟩:=k.box b cs h0
    obtain⟨r,C,T,e1,e2,e3,e4⟩:=k'.box b cs h1
    exact⟨r,C,T,cR r e1,e2,old g3 e3,e4⟩
   |map ks vs=>
    obtain⟨r0,E0,q0,_,_,g3,g4,_⟩:=k.map b ks vs h0
    obtain⟨r,E,q,e1,e2,e3,e4,e5⟩:=k'.map b ks vs h1
    exact⟨r,E,q,cR r e1,e2,old g3 e3,old g4 e4,e5⟩
   |tok q e=>
    obtain⟨r,cap,C,i,e1,e2⟩:=k'.tok b q e h1
    exact⟨r,cap,C,i,cT _ e1,e2⟩
   |arr p cs q e=>
    obtain⟨r0,cap0,C0,i0,_,_,_,_,_,_,_,_,g9,_⟩:=k.arr b p cs q e h0
    obtain⟨r,cap,C,i,e1,e2,e3,e4,e5,e6,e7,e8,e9,e10⟩:=k'.arr b p cs q e h1
    exact⟨r,cap,C,i,cT _ e1,e2,e3,e4,e5,e6,e7,e8,old g9 e9,e10⟩
  ·obtain⟨r,C,T,e1,e2,e3,e4⟩:=k'.box b cs h1
   exact⟨_,h1,rfl,rfl,r,C,T,cR r e1,e2,mvl hl hm e3,e4⟩
  ·obtain⟨r,cap,C,i,e1,e2⟩:=k'.tok b q e h1
   exact⟨_,h1,rfl,rfl,r,cap,C,i,cT _ e1,e2⟩
  ·obtain⟨r,cap,C,i,e1,e2,e3,e4,e5,e6,e7,e8,e9,e10⟩:=k'.arr b p cs q e h1
   exact⟨_,h1,rfl,rfl,r,cap,C,i,cT _ e1,e2,e3,e4,e5,e6,e7,by rw[hl];exact e8,by rw[hl];exact mvl hl hm e9,e10⟩
  ·obtain⟨r,E,q,e1,e2,e3,e4,e5⟩:=k'.map b ks vs h1
   refine⟨_,h1,rfl,rfl,r,E,q,cR r e1,e2,⟨e3.1,fun j u v hu hv=>(e3.2 j u v hu hv).cutA (hks u (wb hu))⟩,mvl hl hm e4,e5⟩
 have h2lt:∀b,b<h.length→∃x,h2[b]? =some x:=fun b hb=>⟨h2[b]'(by omega),wa (by omega)⟩
 refine⟨⟨hx.M,fun b r hb=> ?_,fun t r c l ht=> ?_,fun b r hb=>hx.newρ b r (cρ b r hb).2,fun t r c l ht=> ?_,hx.newM,hx.F⟩,?_⟩
 ·simp only[Sh.cut];rw[if_pos (dρ b r hb)];exact hx.ρ b r hb
 ·obtain⟨r',c',l',h1,h2'⟩:=hx.τ t r c l ht
  exact⟨r',c',l',by simp only[Sh.cut];rw[if_pos (dτ t _ ht)];exact h1,h2'⟩
 ·rcases cτ t _ ht with⟨_,h1⟩|⟨j,t',rfl,hm,h1⟩
  ·exact hx.newτ t r c l h1
  ·rcases hx.newτ t' r c l h1 with⟨c0,l0,h3⟩|h3
   ·have:=dτ t' _ h3
    have:=(hmv.tk t' (wb hm)).1
    omega
   ·exact .inr h3
 ·constructor
  ·exact k'.imm
  ·intro b x hb
   by_cases hlt:b<h.length
   ·obtain⟨_,_,_,_,h3⟩:=low b x hlt hb
    exact h3
   ·have hb2:=(wc.1 hb).1
    have hj:b-h.length<mv.length:=by omega
    have:=hhigh (b-h.length) _ (wa hj)
    rw[show h.length+(b-h.length)=b by omega,hb]at this
    obtain⟨_,q,e,hq⟩:=hmv.tk _ (List.getElem_mem hj)
    rw[hq]at this;cases this
    obtain⟨r,cap,C,i,g1,g2⟩:=k'.tok _ q e hq
    exact⟨r,cap,C,i,by simp only[Sh.cut];rw[if_neg hlt,wa hj];exact g1,g2⟩
  ·intro b r hb
   obtain⟨hlt,h1⟩:=cρ b r hb
   obtain⟨y,h3,h4⟩:=k'.ρdom b r h1
   obtain⟨x,hxb⟩:=h2lt b hlt
   obtain⟨x',g1,g2,_,_⟩:=low b x hlt hxb
   rw[h3]at g1;cases g1
   exact⟨x,hxb,by rw[g2];exact h4⟩
  ·intro b x hb
   rcases cτ b x hb with⟨hlt,h1⟩|⟨j,t,rfl,hm,h1⟩
   ·obtain⟨y,h3,h4⟩:=k'.τdom b x h1
    obtain⟨z,hzb⟩:=h2lt b hlt
    obtain⟨x',g1,_,g2,_⟩:=low b z hlt hzb
    rw[h3]at g1;cases g1
    exact⟨z,hzb,by rw[g2];exact h4⟩
   ·obtain⟨y,h3,h4⟩:=k'.τdom t x h1
    exact⟨y,by rw[hhigh j t hm];exact h3,h4⟩
  ·intro b b' r hb hb'
   exact k'.injρ b b' r (cρ b r hb).2 (cρ b' r hb').2
  ·intro b b' r c c' l l' hb hb'
   rcases cτ b _ hb with⟨h1,h2'⟩|⟨j,t,rfl,hm,h2'⟩
   ·rcases cτ b' _ hb' with⟨h3,h4⟩|⟨j',t',rfl,hm',h4⟩
    ·exact k'.injτ b b' r c c' l l' h2' h4
    ·have:=k'.injτ b t' r c c' l l' h2' h4
     have:=(hmv.tk t' (wb hm')).1
     omega
   ·rcases cτ b' _ hb' with⟨h3,h4⟩|⟨j',t',rfl,hm',h4⟩
    ·have:=k'.injτ t b' r c c' l l' h2' h4
     have:=(hmv.tk t (wb hm)).1
     omega
    ·have:=k'.injτ t t' r c c' l l' h2' h4
     subst this
     have hj:=(wc.1 hm).1
     have hj':=(wc.1 hm').1
     have:=(List.getElem?_inj hj hmv.nd).1 (hm.trans hm'.symm)
     omega
  ·intro b b' r c l hb hb'
   have h1:=(cρ b r hb).2
   rcases cτ b' _ hb' with⟨_,h4⟩|⟨j',t',_,_,h4⟩
   ·exact k'.apart b b' r c l h1 h4
   ·exact k'.apart b t' r c l h1 h4
  ·intro x o hxo
   obtain⟨h1,h3,h4⟩:=k'.frz x o hxo
   refine⟨h1,fun b hb=>h3 b (cρ b x hb).2,fun t c l ht=> ?_⟩
   rcases cτ t _ ht with⟨_,h5⟩|⟨j,t',_,_,h5⟩
   ·exact h4 t c l h5
   ·exact h4 t' c l h5
  ·exact k'.laid
theorem qps {S:Sh} {sz n:Nat} {cs:List AVal} {fs:List (List AVal)} {Y:List Value} (hv:VRl S cs Y) (hl:cs.length=n*sz) (e:qbz (chop sz n cs)=some fs):RowOf S fs sz Y∧fs.length=n:=by
 obtain⟨c1,c2⟩:=qj8 sz n cs (by omega)
 obtain⟨d1,d2⟩:=qfu e
 refine⟨⟨by rw[←hv.1,hl,d1,c1],fun c' hc'=> ?_,fun c' hc'=> ?_,fun i c' j a' hi hj=> ?_⟩,by rw[d1,c1]⟩
 ·obtain⟨i,hi,rfl⟩:=wg hc'
  obtain⟨c,g1,g2⟩:=d2 i _ (wa hi)
  obtain⟨g3,g4⟩:=c2 i c g1
  rw[(qb5 g2).1,g4,wq,List.length_drop,hl]
  have:(i+1)*sz≤n*sz:=w7 _ g3
  rw[Nat.add_mul]at this
  omega
 ·obtain⟨i,hi,rfl⟩:=wg hc'
  obtain⟨c,g1,g2⟩:=d2 i _ (wa hi)
  exact(qb5 g2).2.1
 ·obtain⟨c,g1,g2⟩:=d2 i _ hi
  obtain⟨g3,g4⟩:=c2 i c g1
  obtain⟨b,g5,rfl⟩:=(qb5 g2).2.2 j a' hj
  rw[g4,List.getElem?_take]at g5
  split at g5
  ·rw[w9]at g5
   obtain⟨v,g6,g7⟩:=hv.get g5
   exact⟨v,g6,qei g7⟩
  ·cases g5
def FzAt (P:Program) (S:Sh) (pn:Nat→Bool) (h:qaa) (d:List Nat) (a:Addr):Prop:=
 ∃b c l p cs e i,S.τ b=some (a.block,c,l)∧h[b]? =some (.arr p cs l e)∧frzB pn h d b (.arr p cs l e)= .tok l e∧P.info? e=some i∧a.off<l*i.size
open Classical in
noncomputable def Sh.frz (P:Program) (S:Sh) (pn:Nat→Bool) (h:qaa) (d:List Nat) (w:World):Sh:=
 { S with M:=fun a=>match S.M a with|some v=>some v|none=>if a.spot=none∧FzAt P S pn h d a then w.cell? a else none }
theorem qih [Tabs P] {S:Sh} {h:qaa} {w:World} (pn:Nat→Bool) (d:List Nat) (k:WR P S h w):
 Step P S w (S.frz P pn h d w) (frzH pn h d) w∧∀a v,VR S a v→VR (S.frz P pn h d w) (frz3 pn h a) v:=by
 have hx:Ex S w.heap.size (S.frz P pn h d w):=by
  refine⟨fun a v ha=> ?_,fun _ _ h=>h,fun t r c l ht=>⟨r,c,l,ht,.inr ⟨rfl,rfl,rfl⟩⟩,fun _ _ h=> .inl h,fun _ _ c l h=> .inl ⟨c,l,h⟩,fun a v ha=> ?_,rfl⟩
  ·simp only[Sh.frz,ha]
  ·simp only[Sh.frz]at ha
   split at ha
   ·rename_i v' hv';cases ha;exact .inl hv'
   ·split at ha
    ·rename_i hc
     obtain⟨_,b,c,l,p,cs,e,i,h1,_⟩:=hc
     exact .inr (.inr ⟨b,c,l,h1⟩)
    ·cases ha
 have hnone:∀b r o,Nm S b r→S.M ⟨r,o,none⟩=none→(∀p cs l e i,h[b]? =some (.arr p cs l e)→frzB pn h d b (.arr p cs l e)= .tok l e→P.info? e=some i→l*i.size≤o)→(S.frz P pn h d w).M ⟨r,o,none⟩=none:=by
  intro b r o hb hM hno
  simp only[Sh.frz,hM]
  rw[if_neg]
  rintro⟨_,b',c,l,p,cs,e,i,h1,h2,h3,h4,h5⟩
  have hbb:b'=b:=by
   by_cases h:b'=b
   ·exact h
   ·exact absurd rfl (k.nmNe (.inr ⟨c,l,h1⟩) hb h)
  subst hbb
  have:=hno p cs l e i h2 h3 h4
  simp only at h5
  omega
 have f0:∀a v,VR S a v→VR (S.frz P pn h d w) (frz0 pn h a) v:=by
  intro a v hv
  cases a with
  |ms es b l m=>
   simp only[frz0]
   cases he:frzE pn h es b l m with
   |none=>exact hv.ext hx
   |some q=>
    obtain⟨fs,tk⟩:=q
    simp only
    unfold frzE at he
    split at he
    ·cases he
    ·rename_i hbn
     split at he
     ·rename_i p cs len e hb
      split at he
      ·rename_i s hs
       split at he
       ·rename_i hc
        simp only[wj,decide_eq_true_eq,beq_iff_eq]at hc
        obtain⟨⟨⟨rfl,hml0⟩,rfl⟩,hh⟩:=hc
        have hs0:=hs
        split at he
        ·rename_i fs0 hfs
         simp only[Option.some.injEq]at he
         obtain⟨r,cap,C,i,g1,g2,hi,g4,g5,g6,g7,g8,g9,g10⟩:=k.arr b _ cs l e hb
         cases hv with
         |ms _ _ _ _ ad cap' hv0 hn hm hc hcm ht hsp=>
          obtain⟨r1,c1,l1,t1,t2,t3,t4⟩:=ht
          rw[g1]at t1;cases t1
          obtain⟨rfl,rfl⟩:=t4 rfl
          have hpos:0<s+1:=by omega
          obtain⟨X1,hX1,hXc,hXM⟩:=VR.row k hv0 hh hpos
          have his':i.size=s+1:=by rw[g8,Nat.mul_div_cancel_left _ t3]at hs;exact hs
          rw[his']at g8 g5
          have hcl:cs.length=(l-es.length)*(s+1):=by rw[Nat.sub_mul];omega
          obtain⟨hY,hYn⟩:=qps (S:=S) g9 hcl hfs
          have hrow:=(hX1.append hY).ext hx
          have hll:es.length+fs0.length=l:=by rw[hYn];omega
          have hfz:frzB pn h d b (.arr (es.length*(s+1)) cs l e)= .tok l e:=by
           simp only[frzB]
           rw[if_pos (show pn b=true by simpa using hbn),hs]
           simp only
           rw[hcl,Nat.mul_div_cancel _ hpos,if_pos (by rw[hfs];rfl)]
          have hsz:l*(s+1)≤C.size:=by rw[g5];exact w7 _ g6
          have hcellM:∀(j:Nat) (v:Value),(X1++(C.toList.drop (es.length*(s+1))).take cs.length)[j]? =some v→(S.frz P pn h d w).M ⟨r,j,none⟩=some v:=by
           intro j v hj
           have hjl:j<l*(s+1):=by
            have h1:=(wc.1 hj).1
            rw[waa,hX1.1,hY.1,←Nat.add_mul,hll]at h1
            exact h1
           have hcell:w.cell? ⟨r,j,none⟩=some v:=by
            by_cases hjx:j<X1.length
            ·rw[wd hjx]at hj
             have:=hXc j v hj
             rwa [Addr.add_lit,Nat.zero_add]at this
            ·rw[ww (by omega)]at hj
             have hj2:=(wc.1 hj).1
             have hYl:((C.toList.drop (es.length*(s+1))).take cs.length).length=cs.length:=g9.1.symm
             rw[hYl]at hj2
             rw[wm hj2,w9,ws,hX1.1]at hj
             rw[hX1.1]at hjx
             rw[show es.length*(s+1)+(j-es.length*(s+1))=j by omega]at hj
             simp[World.cell?,g2,hj]
           simp only[Sh.frz]
           cases hM:S.M ⟨r,j,none⟩with
           |some v'=>
            have:=(k.imm _ _ hM).1
            rw[hcell]at this;exact this.symm
           |none=>
            simp only
            rw[if_pos ⟨rfl,b,_,l,_,cs,e,i,g1,hb,hfz,hi,by rw[his'];exact hjl⟩]
            exact hcell
          by_cases hml:m=l
          ·rw[if_pos hml]at he
           cases he
           subst hml
           exact VR.made hrow hcellM (by simpa using hll) hc hcm ⟨r,_,m,g1,Nat.le_refl _,t3,fun _=>⟨rfl,rfl⟩⟩
          ·exact absurd hml0 hml
        ·cases he
       ·cases he
      ·cases he
     ·cases he
  |_=>exact hv.ext hx
 have fl:∀l X,VRl S l X→VRl (S.frz P pn h d w) (l.map (frz0 pn h)) X:=by
  intro l X hl
  refine⟨by simpa using hl.1,fun j u v hu hv=> ?_⟩
  rw[wca]at hu
  cases hc:l[j]? with
  |none=>simp[hc]at hu
  |some a=>simp[hc]at hu;subst hu;exact f0 _ _ (hl.2 j a v hc hv)
 have f2:∀a v,VR S a v→VR (S.frz P pn h d w) (frz2 pn h a) v:=by
  intro a v hv
  cases a with
  |agg cs=>
   obtain⟨x,rfl,hx'⟩:=hv.inv_agg
   have:=VR.agg' (fl _ _ hx')
   simpa[frz2]using this
  |_=>exact f0 _ _ hv
 have f3:∀a v,VR S a v→VR (S.frz P pn h d w) (frz3 pn h a) v:=by
  intro a v hv
  cases a with
  |tuple cs=>
   obtain⟨x,rfl,hx'⟩:=hv.inv_tuple
   have:VRl (S.frz P pn h d w) (cs.map (frz2 pn h)) x.toList:=by
    refine⟨by simpa using hx'.1,fun j u v hu hv=> ?_⟩
    rw[wca]at hu
    cases hc:cs[j]? with
    |none=>simp[hc]at hu
    |some a=>simp[hc]at hu;subst hu;exact f2 _ _ (hx'.2 j a v hc hv)
   have:=VR.tuple' this
   simpa[frz3]using this
  |_=>exact f2 _ _ hv
 refine⟨⟨hx,.refl S w,?_⟩,f3⟩
 constructor
 ·intro a v ha
  simp only[Sh.frz]at ha
  split at ha
  ·rename_i v' hv';cases ha;exact k.imm a v hv'
  ·split at ha
   ·rename_i hc;exact⟨ha,hc.1⟩
   ·cases ha
 ·intro b x hb
  rw[qf2]at hb
  cases hy:h[b]? with
  |none=>rw[hy]at hb;cases hb
  |some y=>
   rw[hy]at hb
   simp only[wea,Option.some.injEq]at hb
   subst hb
   have noarr:∀{z:Blk},h[b]? =some z→(∀p cs l e,z≠ .arr p cs l e)→∀r o,Nm S b r→S.M ⟨r,o,none⟩=none→(S.frz P pn h d w).M ⟨r,o,none⟩=none:=by
    intro z hz hna r o hr hM
    exact hnone b r o hr hM (fun p cs l e i h1 _ _=>by rw[hz]at h1;cases h1;exact absurd rfl (hna p cs l e))
   cases y with
   |box cs=>
    obtain⟨r,C,T,e1,e2,e3,e4⟩:=k.box b cs hy
    have hM:=fun o=>noarr hy (fun _ _ _ _ h=>by cases h) r o (.inl e1) (e4 o)
    simp only[frzB]
    split
    ·exact⟨r,C,T,e1,e2,fl _ _ e3,hM⟩
    ·exact⟨r,C,T,e1,e2,e3.ext hx,hM⟩
   |map ks vs=>
    obtain⟨r,E,q,e1,e2,e3,e4,e5⟩:=k.map b ks vs hy
    exact⟨r,E,q,e1,e2,e3.ext hx,e4.ext hx,fun o=>noarr hy (fun _ _ _ _ h=>by cases h) r o (.inl e1) (e5 o)⟩
   |tok q e=>
    obtain⟨r,cap,C,i,e1,e2,e3,e4,e5,e6,e7,e8⟩:=k.tok b q e hy
    exact⟨r,cap,C,i,e1,e2,e3,e4,e5,e6,e7,fun o ho=>noarr hy (fun _ _ _ _ h=>by cases h) r o (.inr ⟨_,_,e1⟩) (e8 o ho)⟩
   |arr p cs q e=>
    obtain⟨r,cap,C,i,e1,e2,e3,e4,e5,e6,e7,e8,e9,e10⟩:=k.arr b p cs q e hy
    have hcase:frzB pn h d b (.arr p cs q e)= .tok q e∨frzB pn h d b (.arr p cs q e)= .arr p cs q e:=by
     simp only[frzB]
     split
     ·split
      ·split
       ·exact .inl rfl
       ·exact .inr rfl
      ·exact .inr rfl
     ·exact .inr rfl
    rcases hcase with hc|hc
    ·rw[hc]
     refine⟨r,cap,C,i,e1,e2,e3,e4,e5,e6,e7,fun o ho=>hnone b r o (.inr ⟨_,_,e1⟩) (e10 o (by omega)) (fun p' cs' l' e' i' h1 _ h3=> ?_)⟩
     rw[hy]at h1;cases h1
     rw[e3]at h3;cases h3
     exact ho
    ·rw[hc]
     refine⟨r,cap,C,i,e1,e2,e3,e4,e5,e6,e7,e8,e9.ext hx,fun o ho=>hnone b r o (.inr ⟨_,_,e1⟩) (e10 o ho) (fun p' cs' l' e' i' h1 h2 _=> ?_)⟩
     rw[hy]at h1;cases h1
     rw[hc]at h2;cases h2
 ·intro b r hb
  obtain⟨y,h1,h2⟩:=k.ρdom b r hb
  refine⟨frzB pn h d b y,by rw[qf2,h1];rfl,?_⟩
  cases y with
  |box cs=>simp only[frzB];split<;>rfl
  |map=>rfl
  |tok=>cases h2
  |arr=>cases h2
 ·intro b x hb
  obtain⟨y,h1,h2⟩:=k.τdom b x hb
  refine⟨frzB pn h d b y,by rw[qf2,h1];rfl,?_⟩
  cases y with
  |box cs=>cases h2
  |map=>cases h2
  |tok=>exact h2
  |arr p cs q e=>
   simp only[frzB]
   split
   ·split
    ·split
     ·exact h2
     ·exact h2
    ·exact h2
   ·exact h2
 ·exact k.injρ
 ·exact k.injτ
 ·exact k.apart
 ·exact qc4 k hx (.refl S w)
 ·exact qdl k hx
theorem qii [Tabs P] {S S':Sh} {h h':qaa} {w w':World} {d:List Nat} {a:AVal} {v:Value} {r:AVal×Eff} (k:WR P S h w) (st:Step P S w S' h' w') (hl0:h.length≤h'.length) (hdl:∀b∈d,b<h.length) (hdd:d.Nodup)
 (hdn:∀b,b<h.length→b∉d→h'[b]? =h[b]?) (hv:VR S' a v) (e:qe9 h.length a h' d=some r):∃S2,Step P S w S2 (r.2.of h) w'∧VR S2 r.1 v:=by
 unfold qe9 at e
 simp only at e
 split at e
 ·rename_i hlow
  have hv3:=(qej hv).cutA (mv:=[]) hlow
  split at e
  ·cases e
   obtain⟨h1,h2⟩:=cut_wr (mv:=[]) (h2:=h) k st.wr st.ext ⟨wo,fun t ht=>by cases ht⟩ (by simp)
    (fun b x hb hx=> .inl ⟨by rw[hdn b hb (by simp)];exact hx,hx⟩) (fun j t hj=>by simp at hj)
   exact⟨_,⟨h1,st.fr,h2⟩,hv3⟩
  ·split at e
   ·rename_i kk mv hl
    cases e
    obtain⟨q1,q2,q3⟩:=qgg _ _ [] kk mv hl ⟨wo,fun t ht=>by cases ht⟩ hdd (fun b hb=>by rw[wq];have:=hdl b hb;omega)
    obtain⟨l1,l2⟩:=qdt _ _ _ _ _ _ _ hl
    have hkl:kk.length=h.length:=by rw[l1,wq];omega
    have hsome:∀t∈mv,(h'[t]?).isSome=true:=fun t ht=>by obtain⟨_,q,e,hq⟩:=q2.tk t ht;rw[hq];rfl
    have hfm:∀j:Nat,(mv.filterMap fun t=>h'[t]?)[j]? =(mv[j]?).bind fun t=>h'[t]? :=qhy mv hsome
    have hfl:(mv.filterMap fun t=>h'[t]?).length=mv.length:=by
     have:∀l:List Nat,(∀t∈l,(h'[t]?).isSome=true)→(l.filterMap fun t=>h'[t]?).length=l.length:=by
      intro l
      induction l with
      |nil=>intro _;rfl
      |cons t l ih=>
       intro hl
       obtain⟨b,hb⟩:=wz.1 (hl t (by simp))
       rw[w3 hb]
       simp[ih (fun x hx=>hl x (by simp[hx]))]
     exact this mv hsome
    obtain⟨h1,h2⟩:=cut_wr (mv:=mv) (h2:=kk++mv.filterMap fun t=>h'[t]?) k st.wr st.ext q2 (by rw[waa,hkl,hfl])
     (fun b x hb hx=>by
      rw[wd (by omega)]at hx
      by_cases hm:b∈d
      ·obtain⟨y,hy,hmb⟩:=q3 b hm
       rw[hx]at hy;cases hy
       exact .inr hmb
      ·rw[l2 b hm,wm hb]at hx
       exact .inl ⟨hx,by rw[←hdn b hb hm];exact hx⟩)
     (fun j t hj=>by
      rw[ww (by omega),hkl,show h.length+j-h.length=j by omega,hfm j,hj]
      rfl)
    exact⟨_,⟨h1,st.fr,h2⟩,(qej hv).cutA hlow⟩
   ·cases e
 ·cases e
theorem qek [Tabs P] {S S':Sh} {h h':qaa} {w w':World} {d:List Nat} {a:AVal} {v:Value} (k:WR P S h w) (st:Step P S w S' h' w') (hk:KeepH h h' d) (hv:VR S' a v):
 ∃S2,Step P S w S2 ((qav h.length a h' d).2.of h) w'∧VR S2 (qav h.length a h' d).1 v:=by
 have hdl:∀b,b∈qcu (d.filter (· <h.length))→b<h.length:=fun b hb=>by
  have:=(we.1 (qd9.1 hb)).2
  simpa using this
 have hdn:∀b,b<h.length→b∉qcu (d.filter (· <h.length))→h'[b]? =h[b]? :=fun b hb hm=>hk.2 b hb (fun hm'=>hm (qd9.2 (we.2 ⟨hm',by simpa using hb⟩)))
 unfold qav
 simp only
 split
 ·rename_i r hr
  exact qii k st hk.1 hdl (qjz _) hdn hv hr
 ·split
  ·split
   ·rename_i r hr
    obtain⟨h1,h2⟩:=qih (fun b=>decide (h.length≤b)) (qcu (d.filter (· <h.length))) st.wr
    exact qii k (st.trans h1) (by rw[qj1];exact hk.1) hdl (qjz _) (fun b hb hm=>by rw[qgf (by simp;omega) hm];exact hdn b hb hm) (h2 _ _ hv) hr
   ·exact⟨S',st,qej hv⟩
  ·exact⟨S',st,qej hv⟩
theorem qnk [Tabs P] {S S':Sh} {h h':qaa} {w w':World} {d:List Nat} {a:AVal} {v:Value} {r:AVal×Eff} (k:WR P S h w) (st:Step P S w S' h' w') (hdn:∀b,b<h.length→b∉d→h'[b]? =h[b]?)
 (hv:VR S' a v) (e:qee h.length a h' d=some r):∃S2,Step P S w S2 (r.2.of h) w'∧VR S2 r.1 v:=by
 unfold qee at e
 simp only at e
 have hn:(List.range h.length++(qaw h' 4096 (refs a++d) []).filter (h.length≤ ·)).Nodup:=qmc (qdh h' _ _ _ wo)
 have hge:∀b∈(qaw h' 4096 (refs a++d) []).filter (h.length≤ ·),h.length≤b:=fun b hb=>by simpa using(we.1 hb).2
 generalize(qaw h' 4096 (refs a++d) []).filter (h.length≤ ·)=keep at e hn hge
 split at e
 ·rename_i hc
  simp only[wj]at hc
  obtain⟨ok,hvr⟩:=qfv hn hc.1
  have hwr:=qkz st.wr ok
  have hva:VR (S'.sub (List.range h.length++keep)) (ren (fun x=>(List.range h.length++keep).idxOf x) a) v:=
   hv.ren (S:=S') (S':=S'.sub (List.range h.length++keep)) (fun x=>(List.range h.length++keep).idxOf x) (fun _ _ h=>h) (fun c hc=>qgr (hvr c (by simpa[qaf]using hc)))
  have low:∀b c,(List.range h.length++keep)[b]? =some c→c<h.length→b=c:=fun b c hb hc=>by
   have h1:=qb3 hn hb
   rw[(qea hn hc).2]at h1;exact h1.symm
  have hx:Ex S w.heap.size (S'.sub (List.range h.length++keep)):=by
   refine⟨st.ext.M,fun b r hb=> ?_,fun t r c l ht=> ?_,fun b r hb=> ?_,fun t r c l ht=> ?_,st.ext.newM,st.ext.F⟩
   ·simp only[Sh.sub,(qea hn (k.lt hb).1).1];exact st.ext.ρ b r hb
   ·simp only[Sh.sub,(qea hn (k.ltτ ht).1).1];exact st.ext.τ t r c l ht
   ·simp only[Sh.sub]at hb
    cases hi:(List.range h.length++keep)[b]? with
    |none=>rw[hi]at hb;cases hb
    |some c=>
     rw[hi]at hb
     rcases st.ext.newρ c r hb with h1|h1
     ·have:=low b c hi (k.lt h1).1
      subst this;exact .inl h1
     ·exact .inr h1
   ·simp only[Sh.sub]at ht
    cases hi:(List.range h.length++keep)[t]? with
    |none=>rw[hi]at ht;cases ht
    |some q=>
     rw[hi]at ht
     rcases st.ext.newτ q r c l ht with⟨c0,l0,h1⟩|h1
     ·have:=low t q hi (k.ltτ h1).1
      subst this;exact .inl ⟨c0,l0,h1⟩
     ·exact .inr h1
  split at e
  ·cases e
   refine⟨_,⟨hx,st.fr,?_⟩,?_⟩
   ·have:subH h' (List.range h.length++[])=h:=by
     apply List.ext_getElem?
     intro b
     by_cases hb:b<h.length
     ·obtain⟨x,hxb,hl⟩:=lowB_at hc.2 hb (by simp)
      rw[qet (qea hn hb).1 hxb,renB_id (fun c hc=>(qea hn (hl c hc)).2),←hxb]
      exact hdn b hb (by simp)
     ·rw[w5 (by simp[subH];omega),w5 (by omega)]
    rw[this]at hwr;exact hwr
   ·rw[qc5 a (fun b hb=>(qea hn (by have:=hvr b (by simpa[qaf]using hb);simpa using this)).2)]at hva
    exact hva
  ·cases e
   exact⟨_,⟨hx,st.fr,hwr⟩,hva⟩
 ·cases e
theorem qnl [Tabs P] {S S':Sh} {h h':qaa} {w w':World} {d:List Nat} {a:AVal} {v:Value} (k:WR P S h w) (st:Step P S w S' h' w') (hk:KeepH h h' d) (hv:VR S' a v):
 ∃S2,Step P S w S2 ((qdk h.length a h' d).2.of h) w'∧VR S2 (qdk h.length a h' d).1 v:=by
 have hdn:∀b,b<h.length→b∉qcu (d.filter (· <h.length))→h'[b]? =h[b]? :=fun b hb hm=>hk.2 b hb (fun hm'=>hm (qd9.2 (we.2 ⟨hm',by simpa using hb⟩)))
 unfold qdk
 simp only
 split
 ·rename_i r hr
  obtain⟨h1,h2⟩:=qih (fun b=>decide (h.length≤b) && (qfs a).contains b) [] st.wr
  exact qnk k (st.trans h1) (fun b hb hm=>by rw[qgf (by simp;omega) (by simp)];exact hdn b hb hm) (h2 _ _ hv) hr
 ·exact⟨S',st,hv⟩
theorem qij [Tabs P] {big:Bool} {S S':Sh} {h h':qaa} {w w':World} {d:List Nat} {a:AVal} {v:Value} (k:WR P S h w) (st:Step P S w S' h' w') (hk:KeepH h h' d) (hv:VR S' a v):
 ∃S2,Step P S w S2 ((qb1 big h.length a h' d).2.of h) w'∧VR S2 (qb1 big h.length a h' d).1 v:=by
 unfold qb1
 split
 ·exact qnl k st hk hv
 ·exact qek k st hk hv
structure qel (P:Program) (cmp:List TypeId):Prop where
 mix:P.follows .mixedOrders=true
 cmp:∀t∈cmp,qca P t=true
 name:∀(f:FuncId) (fn:Func),P.funcs[f]? =some fn→(fn.name== "runtime.NumGoroutine")=false
theorem qme [Tabs P] (hp:qel P cmp) (hcall:qay P call) (hkeep:qaj call) {lp:Lp} (hlp:LpOk lp):qay P (fnA P cmp call lp):=by
 intro f args h r e
 unfold fnA at e
 split at e
 ·cases e
 ·rename_i fn hfn
  split at e
  ·cases e
  ·rename_i c hc
   refine⟨⟨fn,hfn,by rw[hc];rfl,hp.name f fn hfn⟩,fun S w vs k ha=> ?_⟩
   refine calls_of_wp hfn hc ?_
   have hts:VRl S (args++List.replicate (fn.ntmps-args.length) .undef) (vs++Array.replicate (fn.ntmps-vs.size) undef).toList:=by
    rw[Array.toList_append,Array.toList_replicate]
    refine ha.append ?_
    have:args.length=vs.size:=by rw[ha.1];exact Array.length_toList
    rw[this]
    exact .replicate S _
   have fin:∀(s:St) (S':Sh) (w':World) (a':Act),KeepH h s.heap s.dirty→Step P S w S' s.heap w'→VRl S' s.tmps a'.tmps.toList→a'.defers=[]→
    (match resA P fn.results.toList s with|some vs=>some (CR.ret (qb1 (bigM cmp) h.length (qb8 vs) s.heap s.dirty).1 (qb1 (bigM cmp) h.length (qb8 vs) s.heap s.dirty).2)|none=>none)=some r→
    a'.defers=[]∧∃v,(results fn a'.tmps).run P w'= .ok v w'∧qco P S h w r (.returned v) w':=by
    intro s S' w' a' hk st ht hd e
    split at e
    ·rename_i us hus
     cases e
     obtain⟨xs,g1,g2⟩:=qfm st.wr ht fn.results.toList us hus
     have hrun:(results fn a'.tmps).run P w'= .ok (qlh xs) w':=by
      rw[qhj,Sem.run_bind,Array.mapM_eq_mapM_toList,Sem.run_map,g1]
      simp only[Result.andThen_ok]
      match xs with
      |[]=>rfl
      |[x]=>rfl
      |x::y::z=>rfl
     have hvr:VR S' (qb8 us) (qlh xs):=by
      match us,xs,g2 with
      |[],[],g2=>exact VR.tuple' g2
      |[u],[x],g2=>exact g2.head
      |u::u'::us,x::y::z,g2=>exact VR.tuple' g2
      |[],x::y,g2=>exact absurd g2.1 (by simp)
      |[u],[],g2=>exact absurd g2.1 (by simp)
      |[u],x::y::z,g2=>exact absurd g2.1 (by simp)
      |u::u'::us,[],g2=>exact absurd g2.1 (by simp)
      |u::u'::us,[x],g2=>exact absurd g2.1 (by simp)
     obtain⟨S2,h1,h2⟩:=qij k st hk hvr
     exact⟨hd,_,hrun,_,S2,rfl,h1,h2⟩
    ·cases e
   split at e
   ·rename_i s hs
    refine qcr hp.mix hp.cmp hcall hkeep hlp (ds:=[]) c _ _ hs _ S w _ k hts rfl ?_
    intro S' w' a' st ht hd
    exact fin s S' w' a' (qbs hkeep hlp _ _ _ hs).1 st (ht.vr (by simp)) hd e
   ·rename_i s hs
    refine qcr hp.mix hp.cmp hcall hkeep hlp (ds:=[]) c _ _ hs _ S w _ k hts rfl ?_
    intro S' w' a' st ht hd
    exact fin s S' w' a' (qbs hkeep hlp _ _ _ hs).1 st (ht.vr (by simp)) hd e
   ·rename_i u s hs
    cases e
    refine qcr hp.mix hp.cmp hcall hkeep hlp (ds:=[]) c _ _ hs _ S w _ k hts rfl ?_
    intro S' w' a' st ht hd v hv
    obtain⟨S2,h1,h2⟩:=qij k st (qbs hkeep hlp _ _ _ hs).1 hv
    exact⟨hd,v,S2,rfl,h1,h2⟩
   ·cases e
structure qjf (P:Program) [Tabs P] (ext:Ext):Prop where
 call:∀f g,ext f=some g→∀args h r,g args h=some r→(∃fn,P.funcs[f]? =some fn∧fn.body.isSome=true)∧
  ∀(S:Sh) (w:World) (vs:Array Value),WR P S h w→VRl S args vs.toList→Calls P f vs w (qco P S h w r)
 keep:∀f g,ext f=some g→∀args h r,g args h=some r→qbo h r.eff∧LowC h r
theorem qli [Tabs P] {ext:Ext} (hp:qel P cmp) (hx:qjf P ext):∀n,qay P (evN P cmp ext n)∧qaj (evN P cmp ext n)
 |0=>⟨(fun f args h r e=>by cases e),(fun f args h r e=>by cases e)⟩
 |n+1=>by
  obtain⟨h1,h2⟩:=qli hp hx n
  constructor
  ·intro f args h r e
   unfold evN at e
   split at e
   ·rename_i g hg
    obtain⟨⟨fn,hfn,hb⟩,hc⟩:=hx.call f g hg args h r e
    exact⟨⟨fn,hfn,hb,hp.name f fn hfn⟩,hc⟩
   ·exact qme hp h1 h2 (qez n) f args h r e
  ·intro f args h r e
   unfold evN at e
   split at e
   ·rename_i g hg;exact hx.keep f g hg args h r e
   ·exact qkg h2 (qez n) f args h r e
end Go.Ab
