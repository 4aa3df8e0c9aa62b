/- The evaluator without a bound on rounds and calls. -/
import Derived.Test.YtngklkmeknmloaaGreatDoorAbCode4
import Derived.LoopN
set_option linter.unusedSimpArgs false
set_option linter.unusedVariables false
set_option maxRecDepth 100000
set_option maxHeartbeats 4000000
open List renaming getElem?_eq_getElem→wa,mem_of_getElem?→wb,getElem?_eq_some_iff→wc,prefix_refl→we,getElem_of_mem→wg,getElem?_append_left→wh,contains_eq_mem→wj,mem_cons→wm,length_take→wq,getElem?_take_of_lt→wt,filterMap_cons_some→wv,mem_filter→ww,nodup_nil→w6,nodup_cons→w7,mem_append→w8,mapM_cons→waa
open Array renaming getElem?_eq_getElem→wd,getD_eq_getD_getElem?→wk,getElem?_toList→wz
open Nat renaming le_max_right→wf,le_max_left→wi
open Bool renaming and_eq_true→wo
open Option renaming isSome_iff_exists→wu,ext→w9
namespace Go.Ab
variable {P:Program} {cmp:List TypeId} {call:Call}
inductive qw0 (f:St→Option (AEx×St)):Nat→St→AEx×St→Prop
 |stop {s:St} {x:AEx×St} (e:f s=some x) (h:∀s',x≠(.normal,s')):qw0 f 1 s x
 |again {n:Nat} {s s':St} {x:AEx×St} (e:f s=some (.normal,s')) (h:qw0 f n s' x):qw0 f (n+1) s x
def LpOk (lp:Lp):Prop:=∀f s x,lp f s=some x→∃n,qw0 f n s x
theorem qqs (n:Nat):LpOk (qe4 n):=by
 induction n with
 |zero=>intro f s x e;cases e
 |succ n ih=>
  intro f s x e
  unfold qe4 at e
  split at e
  ·rename_i s' hs
   obtain⟨m,hm⟩:=ih f s' x e
   exact⟨m+1,.again hs hm⟩
  ·rename_i h
   exact⟨1,.stop e (fun s' hx=>h s' (by rw[e,hx]))⟩
theorem Post.imp [Tabs P] {S:Sh} {w:World} {ds:List Deferred} {Q Q':Exit→Act→World→Prop} {x:AEx×St} (k:Post P S w ds Q x) (h:∀e a w,Q e a w→Q' e a w):Post P S w ds Q' x:=by
 intro S' w' a' st ht hd
 have:=k S' w' a' st ht hd
 obtain⟨e,s⟩:=x
 cases e with
 |normal=>exact h _ _ _ this
 |exit id=>exact h _ _ _ this
 |ret=>exact h _ _ _ this
 |pan u=>exact fun v hv=>h _ _ _ (this v hv)
theorem qg7 [Tabs P] (hmix:P.follows .mixedOrders=true) (hcmp:∀t∈cmp,qgg P t=true) (hcall:qd7 P call) (hkeep:qa4 call) {lp:Lp} (hlp:LpOk lp) {ds:List Deferred}:∀(c:Code) (s:St) (x:AEx×St),qa3 P cmp call lp c s=some x→
 ∀(a:Act) (S:Sh) (w:World) (Q:Exit→Act→World→Prop),WR P S s.heap w→VRl S s.tmps a.tmps.toList→a.defers=ds→Post P S w ds Q x→c.wp P Q a w:=by
 intro c
 induction c with
 |skip=>intro s x e a S w Q k ht hd hp;cases e;exact wp_skip (hp S w a (.refl k) (.inl ht) hd)
 |region id ops draw=>
  intro s x e a S w Q k ht hd hp
  cases draw with
  |false=>exact q0n hcmp hcall hkeep k ht hd e hp
  |true=>
   simp only[qa3]at e
   split at e
   ·rename_i hc
    simp only[wo]at hc
    exact qsf hmix hcmp hcall hkeep hc.1 hc.2 k ht hd e hp
   ·cases e
 |seq c1 c2 ih1 ih2=>
  intro s x e a S w Q k ht hd hp
  simp only[qa3]at e
  refine wp_seq ?_
  split at e
  ·rename_i s' h1
   refine ih1 s _ h1 a S w _ k ht hd ?_
   intro S' w' a' st ht' hd'
   exact ih2 s' x e a' S' w' Q st.wr (ht'.vr (by simp)) hd' (hp.later st)
  ·rename_i r h1
   refine ih1 s x e a S w _ k ht hd ?_
   intro S' w' a' st ht' hd'
   have:=hp S' w' a' st ht' hd'
   obtain⟨ex,sx⟩:=x
   cases ex with
   |normal=>exact(h1 sx e).elim
   |exit id=>exact this
   |ret=>exact this
   |pan u=>exact this
 |cond c t f ih1 ih2=>
  intro s x e a S w Q k ht hd hp
  simp only[qa3]at e
  split at e
  ·rename_i hc
   have hv:=qas ht hc
   generalize hve:a.eval c=vc at hv
   cases hv
   exact wp_cond_true hve (ih1 s x e a S w Q k ht hd hp)
  ·rename_i hc
   have hv:=qas ht hc
   generalize hve:a.eval c=vc at hv
   cases hv
   exact wp_cond_false hve (ih2 s x e a S w Q k ht hd hp)
  ·cases e
 |block id b ih=>
  intro s x e a S w Q k ht hd hp
  simp only[qa3]at e
  refine wp_block ?_
  split at e
  ·rename_i j s' hb
   refine ih s _ hb a S w _ k ht hd ?_
   intro S' w' a' st ht' hd'
   show Exit.inBlock id Q (.exit j) a' w'
   simp only[Exit.inBlock]
   split at e
   ·rename_i hj
    cases e
    rw[if_pos hj]
    exact hp S' w' a' st (.inl (ht'.vr (by simp))) hd'
   ·rename_i hj
    cases e
    rw[if_neg hj]
    exact hp S' w' a' st ht' hd'
  ·rename_i hb
   refine ih s x e a S w _ k ht hd ?_
   intro S' w' a' st ht' hd'
   have:=hp S' w' a' st ht' hd'
   obtain⟨ex,sx⟩:=x
   cases ex with
   |normal=>exact this
   |exit j=>exact(hb j sx e).elim
   |ret=>exact this
   |pan u=>exact this
 |loop b ih=>
  intro s x e a S w Q k ht hd hp
  simp only[qa3]at e
  obtain⟨n,hn⟩:=hlp _ _ _ e
  refine wp_loop_rounds n ?_
  clear e
  induction hn generalizing a S w with
  |stop he hx=>
   rename_i s x
   refine ih s x he a S w _ k ht hd ?_
   intro S' w' a' st ht' hd'
   have:=hp S' w' a' st ht' hd'
   obtain⟨ex,sx⟩:=x
   cases ex with
   |normal=>exact(hx sx rfl).elim
   |exit j=>exact this
   |ret=>exact this
   |pan u=>exact this
  |again he _ ih2=>
   rename_i n s s' x _
   refine ih s _ he a S w _ k ht hd ?_
   intro S' w' a' st ht' hd'
   exact ih2 a' S' w' st.wr (ht'.vr (by simp)) hd' (hp.later st)
 |rangeFunc=>intro s x e;cases e
 |exit id=>intro s x e a S w Q k ht hd hp;cases e;exact wp_exit (hp S w a (.refl k) (.inl ht) hd)
 |scope=>intro s x e;cases e
 |label=>intro s x e;cases e
 |goto=>intro s x e;cases e
 |ret=>intro s x e a S w Q k ht hd hp;cases e;exact wp_ret (hp S w a (.refl k) (.inl ht) hd)
 |refuse=>intro s x e;cases e
def qsg (ts:Array Value):ResultVar→Sem Value
 | .tmp t=>pure (ts.getD t undef)
 | .cell a t=>do loadVar t (←asAddr (ts.getD a undef))
def qw1:List Value→Value
 |[x]=>x
 |xs=> .tuple xs.toArray
theorem qqt (fn:Func) (ts:Array Value):results fn ts=(do let vs ←fn.results.mapM (qsg ts);pure (if h:vs.size=1 then vs[0]else .tuple vs)):=by
 unfold results
 have:(fun| .tmp t=>pure (ts.getD t undef)| .cell a t=>do loadVar t (←asAddr (ts.getD a undef)):ResultVar→Sem Value)=qsg ts:=by
  funext r;cases r<;>rfl
 rfl
theorem qmv [Tabs P] {S:Sh} {s:St} {w:World} {ts:Array Value} (k:WR P S s.heap w) (ht:VRl S s.tmps ts.toList):∀(rs:List ResultVar) (vs:List AVal),resA P rs s=some vs→
 ∃xs:List Value,(rs.mapM (qsg ts)).run P w= .ok xs w∧VRl S vs xs
 |[],vs,e=>by cases e;exact⟨[],rfl,.nil S⟩
 | .tmp t::r,vs,e=>by
  unfold resA at e
  split at e
  ·rename_i u l h1 h2
   cases e
   obtain⟨xs,g1,g2⟩:=qmv k ht r l h2
   obtain⟨v,hv,hr⟩:=ht.get h1
   rw[wz]at hv
   refine⟨v::xs,?_,.cons hr g2⟩
   have:ts.getD t undef=v:=by simp[wk,hv]
   simp only[waa,qsg,Sem.run_bind,Sem.run_pure,Result.andThen_ok,this]
   rw[g1];rfl
  ·cases e
 | .cell p t::r,vs,e=>by
  unfold resA at e
  split at e
  ·rename_i q h1
   split at e
   ·rename_i u l h2 h3
    cases e
    obtain⟨xs,g1,g2⟩:=qmv k ht r l h3
    obtain⟨v,hv,hr⟩:=ht.get h1
    rw[wz]at hv
    obtain⟨y,hy,hyr⟩:=quz k hr h2
    refine⟨y::xs,?_,.cons hyr g2⟩
    have e1:ts.getD p undef=v:=by simp[wk,hv]
    have e2:(do loadVar t (←asAddr v):Sem Value).run P w= .ok y w:=by
     unfold qfe at h2
     cases hr with
     |ptr b o r hr=>simpa[Instr.loadAt,Instr.sureAddr,asAddr]using hy
     |eptr cs o r o0 vs h1 hp h2=>simpa[Instr.loadAt,Instr.sureAddr,asAddr]using hy
     |_=>simp at h2
    simp only[waa,qsg,e1]
    rw[Sem.run_bind,e2]
    simp only[Result.andThen_ok,Sem.run_bind]
    rw[g1];rfl
   ·cases e
  ·cases e
end Go.Ab
namespace Go.Ab
variable {P:Program} {cmp:List TypeId} {call:Call}
def KeepS (s s':St):Prop:=KeepH s.heap s'.heap s'.dirty∧∀x∈s.dirty,x∈s'.dirty
theorem KeepS.refl (s:St):KeepS s s:=⟨.refl _ _,fun _ h=>h⟩
theorem KeepS.trans {a b c:St} (h:KeepS a b) (k:KeepS b c):KeepS a c:=⟨h.1.trans k.1 (fun x hx=>k.2 x hx) (fun _ h=>h),fun x hx=>k.2 x (h.2 x hx)⟩
theorem KeepS.eff {s:St} {f:Eff} {ts:List AVal} (h:qg9 s.heap f):KeepS s ⟨ts,f.of s.heap,f.dirt++s.dirty⟩:=
 ⟨⟨h.1,fun b hb hd=>h.2 b hb (fun hm=>hd (by simp[hm]))⟩,fun x hx=>by simp[hx]⟩
theorem qoa (hc:qa4 call) (ops:List Oper):∀(l:List Oper) (s:St) (x:AEx×St),opsA P cmp call ops l s=some x→KeepS s x.2
 |[],s,x,e=>by cases e;exact .refl s
 |o::r,s,x,e=>by
  unfold opsA at e
  split at e
  ·split at e
   ·rename_i v f hv
    exact(KeepS.eff (qjv hc hv)).trans (qoa hc ops r _ x e)
   ·rename_i v f hv
    cases e
    exact KeepS.eff (qjv hc hv)
   ·cases e
  ·have:=qoa hc ops r _ x e
   exact this
  ·cases e
theorem q0q {ops:List Oper} {j:Nat} {s:St} {x:AEx×St} (e:panD P cmp call ops j s=some x):∃o v f,ops[j]? =some o∧qbw ops o s.tmps=some true∧opA P cmp call o s.tmps s.heap=some (.pan v f)∧qmr ops j=true∧x=(.pan v,⟨[],f.of s.heap,f.dirt++s.dirty⟩):=by
 unfold panD at e
 split at e
 ·cases e
 ·rename_i o ho
  split at e
  ·rename_i hw
   split at e
   ·rename_i v f hv
    split at e
    ·rename_i hp
     cases e
     exact⟨o,v,f,ho,hw,hv,hp,rfl⟩
    ·cases e
   ·cases e
  ·cases e
theorem qsh (hc:qa4 call) {lim:Nat} (ops:List Oper):∀(l:List Nat) (s:St) (x:AEx×St),opsX P cmp call lim ops l s=some x→KeepS s x.2
 |[],s,x,e=>by cases e;exact .refl s
 |j::r,s,x,e=>by
  simp only[opsX]at e
  split at e
  ·rename_i s1 hs
   obtain⟨o,_,hcase⟩:=qer hs
   rcases hcase with⟨_,v,f,hv,_,rfl⟩|⟨_,rfl⟩
   ·exact(KeepS.eff (qjv hc hv)).trans (qsh hc ops r _ x e)
   ·have:=qsh hc ops r _ x e
    exact this
  ·obtain⟨o,v,f,_,_,hv,_,rfl⟩:=q0q e
   exact KeepS.eff (qjv hc hv)
theorem qd5 (hc:qa4 call) {lp:Lp} (hlp:LpOk lp):∀(c:Code) (s:St) (x:AEx×St),qa3 P cmp call lp c s=some x→KeepS s x.2:=by
 intro c
 induction c with
 |skip=>intro s x e;cases e;exact .refl s
 |region id ops draw=>
  intro s x e
  cases draw with
  |false=>exact qoa hc _ _ s x e
  |true=>
   simp only[qa3]at e
   split at e
   ·exact qsh hc _ _ s x e
   ·cases e
 |seq c1 c2 ih1 ih2=>
  intro s x e
  simp only[qa3]at e
  split at e
  ·rename_i s' h1;exact(ih1 s _ h1).trans (ih2 s' x e)
  ·exact ih1 s x e
 |cond c t f ih1 ih2=>
  intro s x e
  simp only[qa3]at e
  split at e
  ·exact ih1 s x e
  ·exact ih2 s x e
  ·cases e
 |block id b ih=>
  intro s x e
  simp only[qa3]at e
  split at e
  ·rename_i j s' hb
   have:=ih s _ hb
   split at e<;>(cases e;exact this)
  ·exact ih s x e
 |loop b ih=>
  intro s x e
  simp only[qa3]at e
  obtain⟨n,hn⟩:=hlp _ _ _ e
  clear e
  induction hn with
  |stop he hx=>exact ih _ _ he
  |again he _ ih2=>exact(ih _ _ he).trans ih2
 |rangeFunc=>intro s x e;cases e
 |exit id=>intro s x e;cases e;exact .refl s
 |scope=>intro s x e;cases e
 |label=>intro s x e;cases e
 |goto=>intro s x e;cases e
 |ret=>intro s x e;cases e;exact .refl s
 |refuse=>intro s x e;cases e
theorem qim {l:List Nat} {x:Nat}:x∈qgf l↔x∈l:=by
 induction l with
 |nil=>rfl
 |cons b r ih=>
  simp only[qgf]
  split
  ·rename_i hc
   rw[wj]at hc
   simp only[decide_eq_true_eq]at hc
   rw[ih,wm]
   constructor
   ·exact .inr
   ·rintro(rfl|h)
    ·exact ih.1 hc
    ·exact h
  ·rw[wm,wm,ih]
theorem qu4 (l:List Nat):(qgf l).Nodup:=by
 induction l with
 |nil=>exact w6
 |cons b r ih=>
  simp only[qgf]
  split
  ·exact ih
  ·rename_i hc
   refine w7.2 ⟨?_,ih⟩
   rw[wj]at hc
   simpa using hc
theorem qi0 (n:Nat) (h:qab):∀(d:List Nat) (k:qab) (mv:List Nat) (k':qab) (mv':List Nat),qf1 n h d k mv=some (k',mv')→
 k'.length=k.length∧∀b,b∉d→k'[b]? =k[b]?
 |[],k,mv,k',mv',e=>by cases e;exact⟨rfl,fun _ _=>rfl⟩
 |b::r,k,mv,k',mv',e=>by
  simp only[qf1]at e
  split at e
  ·obtain⟨h1,h2⟩:=qi0 n h r _ _ k' mv' e
   refine⟨by rw[h1];simp,fun c hc=> ?_⟩
   rw[h2 c (fun hm=>hc (by simp[hm])),List.getElem?_set_ne (fun e=>hc (by simp[e]))]
  ·cases e
theorem qo7 {n:Nat} {v:AVal} {h0 h:qab} {d:List Nat} (hn:n=h0.length) (hk:KeepH h0 h d):qg9 h0 (qbg n v h d).2:=by
 subst hn
 have hd:∀b,b<h0.length→b∉qgf (d.filter (· <h0.length))→h[b]? =h0[b]? :=fun b hb hm=>hk.2 b hb (fun hm'=>hm (qim.2 (ww.2 ⟨hm',by simpa using hb⟩)))
 unfold qbg
 simp only
 split
 ·split
  ·exact KeepH.refl _ _
  ·split
   ·rename_i k mv hl
    obtain⟨h1,h2⟩:=qi0 _ _ _ _ _ _ _ hl
    have hkl:k.length=h0.length:=by rw[h1,wq];have:=hk.1;omega
    refine⟨by simp[Eff.of,hkl],fun b hb hm=> ?_⟩
    simp only[Eff.of]
    rw[wh (by omega),h2 b hm,wt hb]
    exact hd b hb hm
   ·exact⟨hk.1,hd⟩
 ·exact⟨hk.1,hd⟩
theorem q35 {n:Nat} {v:AVal} {h:qab} {d:List Nat} (e:(qbg n v h d).2= .same):lowA n (qbg n v h d).1=true:=by
 unfold qbg at e ⊢
 simp only at e ⊢
 split at e
 ·rename_i hl
  rw[if_pos hl]
  split at e
  ·rename_i hd;simp only[hd];exact hl
  ·split at e<;>cases e
 ·cases e
theorem qnt {v:AVal} {h0 h:qab} {d:List Nat} (hk:KeepH h0 h d):qg9 h0 (qbg h0.length v h d).2∧LowC h0 (.ret (qbg h0.length v h d).1 (qbg h0.length v h d).2):=
 ⟨qo7 rfl hk,fun u hu=>by
  simp only[CR.ret.injEq]at hu
  rw[←hu.1];exact q35 hu.2⟩
theorem q0r (hc:qa4 call) {lp:Lp} (hlp:LpOk lp):qa4 (fnA P cmp call lp):=by
 intro f args h r e
 unfold fnA at e
 split at e
 ·cases e
 ·split at e
  ·cases e
  ·split at e
   ·rename_i s hs
    split at e
    ·cases e
     exact qnt (qd5 hc hlp _ _ _ hs).1
    ·cases e
   ·rename_i s hs
    split at e
    ·cases e
     exact qnt (qd5 hc hlp _ _ _ hs).1
    ·cases e
   ·rename_i v s hs
    cases e
    exact⟨qo7 rfl (qd5 hc hlp _ _ _ hs).1,fun u hu=>by cases hu⟩
   ·cases e
end Go.Ab
namespace Go.Ab
variable {P:Program} {cmp:List TypeId} {call:Call}
def Sh.cut (S:Sh) (n:Nat) (mv:List Nat):Sh:=
 { M:=S.M,ρ:=fun b=>if b<n then S.ρ b else none,τ:=fun b=>if b<n then S.τ b else(mv[b-n]?).bind S.τ,F:=S.F }
theorem VR.cut {S:Sh} {n:Nat} {mv:List Nat} {a:AVal} {v:Value} (k:VR S a v) (h:∀b∈refs a,b<n):VR (S.cut n mv) a v:=by
 have:=k.ren (S:=S) (S':=S.cut n mv) (fun x=>x) (fun _ _ h=>h) (fun b hb=>by
  have hb':=h b hb
  exact⟨fun r hr=>by simp only[Sh.cut];rw[if_pos hb'];exact hr,fun x hx=>by simp only[Sh.cut];rw[if_pos hb'];exact hx⟩)
 rwa [qfc a (fun _ _=>rfl)]at this
theorem VR.cutA {S:Sh} {n:Nat} {mv:List Nat} {a:AVal} {v:Value} (k:VR S a v) (h:lowA n a=true):VR (S.cut n mv) a v:=
 k.cut (fun b hb=>by
  unfold lowA at h
  have:=List.all_eq_true.1 h b hb
  simpa using this)
theorem qy9 {a:AVal} (h:qcu a=true):refs a=[]:=by
 unfold qcu at h;simp only[wo]at h;simpa using h.2
theorem VR.refs_there {S:Sh} {a:AVal} {v:Value} (k:VR S a v):∀b∈refs a,(∃r,S.ρ b=some r)∨∃x,S.τ b=some x:=by
 induction k with
 |ptr b o r e=>intro c hc;simp[refs]at hc;subst hc;exact .inl ⟨r,e⟩
 |slice es tk ad m cap esz vs hn hc hcm hsp hsz h1 hp _ ht ih=>
  intro c hc
  cases tk with
  |own t=>
   simp[refs]at hc;subst hc
   obtain⟨r,c,l,t1,_⟩:=ht
   exact .inr ⟨_,t1⟩
  |free=>simp[refs]at hc
  |full=>simp[refs]at hc
 |snil tk e=>intro c hc;rcases e with rfl|rfl<;>simp[refs]at hc
 |func f x y p q hx hy _ _ i1 i2=>
  intro c hc
  simp only[refs,w8,qn9]at hc
  rcases hc with⟨a,ha,hb⟩|⟨a,ha,hb⟩
  ·obtain⟨j,hj,rfl⟩:=wg ha
   exact i1 j _ _ (wa hj) (wd (by omega)) c hb
  ·obtain⟨j,hj,rfl⟩:=wg ha
   exact i2 j _ _ (wa hj) (wd (by omega)) c hb
 |iface t a v _ ih=>intro c hc;exact ih c (by simpa[refs]using hc)
 |agg x p hx _ ih=>
  intro c hc
  simp only[refs,qn9]at hc
  obtain⟨a,ha,hb⟩:=hc
  obtain⟨j,hj,rfl⟩:=wg ha
  exact ih j _ _ (wa hj) (wd (by omega)) c hb
 |tuple x p hx _ ih=>
  intro c hc
  simp only[refs,qn9]at hc
  obtain⟨a,ha,hb⟩:=hc
  obtain⟨j,hj,rfl⟩:=wg ha
  exact ih j _ _ (wa hj) (wd (by omega)) c hb
 |_=>intro c hc;simp[refs]at hc
theorem VR.cut_old {S0 S:Sh} {n:Nat} {mv:List Nat} (hρ:∀b r,S0.ρ b=some r→b<n) (hτ:∀b x,S0.τ b=some x→b<n) {a:AVal} {v:Value} (k:VR S a v) {v0:Value} (k0:VR S0 a v0):VR (S.cut n mv) a v:=
 k.cut (fun b hb=>by
  rcases k0.refs_there b hb with⟨r,h⟩|⟨x,h⟩
  ·exact hρ b r h
  ·exact hτ b x h)
def Moved (n:Nat) (mv:List Nat) (a a':AVal):Prop:=
 (a'=a∧lowA n a=true)∨(∃es t i,a= .slice es (.own t)∧mv[i]? =some t∧a'= .slice es (.own (n+i)))∨∃es t,a= .slice es (.own t)∧a'= .slice es .free
theorem Moved.mono {n:Nat} {mv mv':List Nat} (h:mv<+:mv') {a a':AVal} (k:Moved n mv a a'):Moved n mv' a a':=by
 rcases k with k|⟨es,t,i,h1,h2,h3⟩|k
 ·exact .inl k
 ·obtain⟨r,rfl⟩:=h
  exact .inr (.inl ⟨es,t,i,h1,by rw[wh (wc.1 h2).1];exact h2,h3⟩)
 ·exact .inr (.inr k)
theorem Moved.vr {S:Sh} {n:Nat} {mv:List Nat} {a a':AVal} {v:Value} (k:Moved n mv a a') (h:VR S a v):VR (S.cut n mv) a' v:=by
 rcases k with⟨rfl,hl⟩|⟨es,t,i,rfl,h2,rfl⟩|⟨es,t,rfl,rfl⟩
 ·exact h.cutA hl
 ·cases h with
  |slice _ _ ad m cap esz vs hn hc hcm hsp hsz h1 hp g2 ht=>
   refine .slice es _ ad m cap esz vs hn hc hcm hsp hsz h1 hp (fun i c j a hi hj=>(g2 i c j a hi hj).cut (fun b hb=>by rw[qy9 (hp c (wb hi) a (wb hj))]at hb;cases hb)) ?_
   obtain⟨r,c,l,t1,t2⟩:=ht
   refine⟨r,c,l,?_,t2⟩
   simp only[Sh.cut]
   rw[if_neg (by omega),show n+i-n=i by omega,h2]
   exact t1
  |snil _ e=>rcases e with e|e<;>cases e
 ·cases h with
  |slice _ _ ad m cap esz vs hn hc hcm hsp hsz h1 hp g2 ht=>
   exact .slice es _ ad m cap esz vs hn hc hcm hsp hsz h1 hp (fun i c j a hi hj=>(g2 i c j a hi hj).cut (fun b hb=>by rw[qy9 (hp c (wb hi) a (wb hj))]at hb;cases hb)) trivial
  |snil _ e=>rcases e with e|e<;>cases e
structure MvOk (n:Nat) (h:qab) (mv:List Nat):Prop where
 nd:mv.Nodup
 tk:∀t∈mv,n≤t∧∃k e,h[t]? =some (.tok k e)
theorem qpg {n:Nat} {h:qab}:∀(cs:List AVal) (mv:List Nat) (l:List AVal) (mv':List Nat),qd0 n h cs mv=some (l,mv')→MvOk n h mv→
 mv<+:mv'∧MvOk n h mv'∧l.length=cs.length∧∀(j:Nat) (a':AVal),l[j]? =some a'→∃a,cs[j]? =some a∧Moved n mv' a a'
 |[],mv,l,mv',e,hk=>by cases e;exact⟨we _,hk,rfl,fun j a' hj=>by simp at hj⟩
 |c::r,mv,l,mv',e,hk=>by
  have step:∀(mv1:List Nat) (l':List AVal) (c':AVal),mv<+:mv1→MvOk n h mv1→qd0 n h r mv1=some (l',mv')→Moved n mv1 c c'→l=c'::l'→
   mv<+:mv'∧MvOk n h mv'∧l.length=(c::r).length∧∀(j:Nat) (a':AVal),l[j]? =some a'→∃a,(c::r)[j]? =some a∧Moved n mv' a a':=by
   intro mv1 l' c' hp hk1 hr hm hl
   subst hl
   obtain⟨g1,g2,g3,g4⟩:=qpg r mv1 l' mv' hr hk1
   refine⟨hp.trans g1,g2,by simp[g3],fun j a' hj=> ?_⟩
   cases j with
   |zero=>simp at hj;subst hj;exact⟨c,rfl,hm.mono g1⟩
   |succ j=>exact g4 j a' (by simpa using hj)
  have plain:∀(hl:lowA n c=true),(match qd0 n h r mv with|some (l,mv')=>some (c::l,mv')|none=>none)=some (l,mv')→
   mv<+:mv'∧MvOk n h mv'∧l.length=(c::r).length∧∀(j:Nat) (a':AVal),l[j]? =some a'→∃a,(c::r)[j]? =some a∧Moved n mv' a a':=by
   intro hl e
   split at e
   ·rename_i l1 mv1 h1
    cases e
    exact step mv l1 c (we _) hk h1 (.inl ⟨rfl,hl⟩) rfl
   ·cases e
  have other:(if lowA n c=true then(match qd0 n h r mv with|some (l,mv')=>some (c::l,mv')|none=>none)else none)=some (l,mv')→
   mv<+:mv'∧MvOk n h mv'∧l.length=(c::r).length∧∀(j:Nat) (a':AVal),l[j]? =some a'→∃a,(c::r)[j]? =some a∧Moved n mv' a a':=by
   intro e
   split at e
   ·rename_i hl;exact plain hl e
   ·cases e
  cases c with
  |slice es tk=>
   cases tk with
   |own t=>
    simp only[qd0]at e
    split at e
    ·rename_i ht
     exact plain (by simpa[lowA,refs]using ht) e
    ·rename_i ht
     split at e
     ·rename_i k e' hb
      split at e
      ·rename_i hc
       simp only[wo,decide_eq_true_eq,Bool.not_eq_true',wj,decide_eq_false_iff_not]at hc
       split at e
       ·rename_i l1 mv1 h1
        cases e
        refine step (mv++[t]) l1 _ (List.prefix_append _ _) ⟨?_,?_⟩ h1 (.inr (.inl ⟨es,t,mv.length,rfl,by simp,rfl⟩)) rfl
        ·rw[List.nodup_append]
         refine⟨hk.nd,by simp,fun a ha b hb=> ?_⟩
         simp at hb;subst hb
         exact fun e=>hc.2 (e▸ha)
        ·intro q hq
         rcases w8.1 hq with hq|hq
         ·exact hk.tk q hq
         ·simp at hq;subst hq;exact⟨by omega,k,e',hb⟩
       ·cases e
      ·split at e
       ·rename_i l1 mv1 h1
        cases e
        exact step mv l1 _ (we _) hk h1 (.inr (.inr ⟨es,t,rfl,rfl⟩)) rfl
       ·cases e
     ·cases e
   |_=>simp only[qd0]at e;exact other e
  |_=>simp only[qd0]at e;exact other e
def qvf (n:Nat) (h:qab) (mv:List Nat) (b:Nat) (x:Blk):Prop:=
 (∃cs l,h[b]? =some (.box cs)∧x= .box l∧l.length=cs.length∧∀(j:Nat) (a':AVal),l[j]? =some a'→∃a,cs[j]? =some a∧Moved n mv a a')∨(∃k e,h[b]? =some (.tok k e)∧x= .tok k e)
theorem qx7 {n:Nat} {h:qab} {b:Nat} {mv mv':List Nat} {x:Blk} (e:qg5 n h b mv=some (x,mv')) (hk:MvOk n h mv):mv<+:mv'∧MvOk n h mv'∧qvf n h mv' b x:=by
 unfold qg5 at e
 split at e
 ·rename_i cs hb
  split at e
  ·rename_i l mv1 h1
   cases e
   obtain⟨g1,g2,g3,g4⟩:=qpg cs mv l mv' h1 hk
   exact⟨g1,g2,.inl ⟨cs,l,hb,rfl,g3,g4⟩⟩
  ·cases e
 ·rename_i k e' hb
  cases e
  exact⟨we _,hk,.inr ⟨k,e',hb,rfl⟩⟩
 ·cases e
theorem qob {n:Nat} {h:qab}:∀(d:List Nat) (k:qab) (mv:List Nat) (k':qab) (mv':List Nat),qf1 n h d k mv=some (k',mv')→MvOk n h mv→d.Nodup→(∀b∈d,b<k.length)→
 mv<+:mv'∧MvOk n h mv'∧∀b∈d,∃x,k'[b]? =some x∧qvf n h mv' b x
 |[],k,mv,k',mv',e,hk,_,_=>by cases e;exact⟨we _,hk,fun b hb=>by cases hb⟩
 |b::r,k,mv,k',mv',e,hk,hnd,hlt=>by
  simp only[qf1]at e
  split at e
  ·rename_i x mv1 h1
   obtain⟨g1,g2,g3⟩:=qx7 h1 hk
   obtain⟨hbr,hnd'⟩:=w7.1 hnd
   obtain⟨q1,q2,q3⟩:=qob r _ mv1 k' mv' e g2 hnd' (fun c hc=>by have:=hlt c (by simp[hc]);simpa using this)
   refine⟨g1.trans q1,q2,fun c hc=> ?_⟩
   rcases wm.1 hc with rfl|hc
   ·refine⟨x,?_,?_⟩
    ·rw[(qi0 n h r _ _ _ _ e).2 c hbr,List.getElem?_set_self (hlt c (by simp))]
    ·rcases g3 with⟨cs,l,h2,h3,h4,h5⟩|g3
     ·exact .inl ⟨cs,l,h2,h3,h4,fun j a' hj=>let⟨a,h6,h7⟩:=h5 j a' hj;⟨a,h6,h7.mono q1⟩⟩
     ·exact .inr g3
   ·exact q3 c hc
  ·cases e
theorem qry {α β:Type} {f:α→Option β}:∀(l:List α),(∀a∈l,(f a).isSome=true)→∀j:Nat,(l.filterMap f)[j]? =(l[j]?).bind f
 |[],_,j=>by simp
 |a::l,h,j=>by
  obtain⟨b,hb⟩:=wu.1 (h a (by simp))
  rw[wv hb]
  cases j with
  |zero=>simp[hb]
  |succ j=>simpa using qry l (fun x hx=>h x (by simp[hx])) j
end Go.Ab
namespace Go.Ab
variable {P:Program} {cmp:List TypeId} {call:Call}
theorem cut_wr [Tabs P] {S S':Sh} {h h' h2:qab} {w w':World} {mv:List Nat} (k:WR P S h w) (k':WR P S' h' w') (hx:Ex S w.heap.size S') (hmv:MvOk h.length h' mv)
 (hlen:h2.length=h.length+mv.length) 
 (hlow:∀b x,b<h.length→h2[b]? =some x→(h'[b]? =some x∧h[b]? =some x)∨qvf h.length h' mv b x)
 (hhigh:∀(j t:Nat),mv[j]? =some t→h2[h.length+j]? =h'[t]?):
 Ex S w.heap.size (S'.cut h.length mv)∧WR P (S'.cut h.length mv) h2 w':=by
 have dρ:∀b r,S.ρ b=some r→b<h.length:=fun b r hb=>(k.lt hb).1
 have dτ:∀b x,S.τ b=some x→b<h.length:=fun b x hb=>(k.ltτ (r:=x.1) (c:=x.2.1) (l:=x.2.2) hb).1
 have cρ:∀b r,(S'.cut h.length mv).ρ b=some r→b<h.length∧S'.ρ b=some r:=by
  intro b r hb
  simp only[Sh.cut]at hb
  split at hb
  ·exact⟨‹_›,hb⟩
  ·cases hb
 have cτ:∀b x,(S'.cut h.length mv).τ b=some x→(b<h.length∧S'.τ b=some x)∨∃j t,b=h.length+j∧mv[j]? =some t∧S'.τ t=some x:=by
  intro b x hb
  simp only[Sh.cut]at hb
  split at hb
  ·exact .inl ⟨‹_›,hb⟩
  ·rename_i hn
   cases hm:mv[b-h.length]? with
   |none=>simp[hm]at hb
   |some t=>simp[hm]at hb;exact .inr ⟨b-h.length,t,by omega,hm,hb⟩
 have low:∀b x,b<h.length→h2[b]? =some x→
  (∃cs l,x= .box l∧h'[b]? =some (.box cs)∧∀{C:List Value},VRl S' cs C→VRl (S'.cut h.length mv) l C)∨(∃q e,x= .tok q e∧h'[b]? =some (.tok q e)):=by
  intro b x hb hxb
  rcases hlow b x hb hxb with⟨h1,h0⟩|⟨cs,l,h1,rfl,hl,hm⟩|⟨q,e,h1,rfl⟩
  ·cases x with
   |box cs=>
    obtain⟨r0,C0,T0,_,_,g3,_⟩:=k.box b cs h0
    refine .inl ⟨cs,cs,rfl,h1,fun {C} hC=>⟨hC.1,fun j u v hu hv=> ?_⟩⟩
    obtain⟨v0,_,hr0⟩:=g3.get hu
    exact(hC.2 j u v hu hv).cut_old dρ dτ hr0
   |tok q e=>exact .inr ⟨q,e,rfl,h1⟩
  ·refine .inl ⟨cs,l,rfl,h1,fun {C} hC=>⟨by rw[hl];exact hC.1,fun j u v hu hv=> ?_⟩⟩
   obtain⟨a,ha,hma⟩:=hm j u hu
   exact hma.vr (hC.2 j a v ha hv)
  ·exact .inr ⟨q,e,rfl,h1⟩
 have h2lt:∀b,b<h.length→∃x,h2[b]? =some x:=fun b hb=>⟨h2[b]'(by omega),wa (by omega)⟩
 refine⟨⟨hx.M,fun b r hb=> ?_,fun t r c l ht=> ?_,fun b r hb=>hx.newρ b r (cρ b r hb).2,fun t r c l ht=> ?_,hx.newM,hx.F⟩,?_⟩
 ·simp only[Sh.cut];rw[if_pos (dρ b r hb)];exact hx.ρ b r hb
 ·obtain⟨r',c',l',h1,h2'⟩:=hx.τ t r c l ht
  exact⟨r',c',l',by simp only[Sh.cut];rw[if_pos (dτ t _ ht)];exact h1,h2'⟩
 ·rcases cτ t _ ht with⟨_,h1⟩|⟨j,t',rfl,hm,h1⟩
  ·exact hx.newτ t r c l h1
  ·rcases hx.newτ t' r c l h1 with⟨c0,l0,h3⟩|h3
   ·have:=dτ t' _ h3
    have:=(hmv.tk t' (wb hm)).1
    omega
   ·exact .inr h3
 ·constructor
  ·exact k'.imm
  ·intro b cs hb
   by_cases hlt:b<h.length
   ·rcases low b _ hlt hb with⟨cs',l,e1,h1,h3⟩|⟨q,e,e1,_⟩
    ·cases e1
     obtain⟨r,C,T,g1,g2,g3,g4⟩:=k'.box b cs' h1
     exact⟨r,C,T,by simp only[Sh.cut];rw[if_pos hlt];exact g1,g2,h3 g3,g4⟩
    ·cases e1
   ·have hb2:=(wc.1 hb).1
    have hj:b-h.length<mv.length:=by omega
    have:=hhigh (b-h.length) _ (wa hj)
    rw[show h.length+(b-h.length)=b by omega,hb]at this
    obtain⟨_,q,e,hq⟩:=hmv.tk _ (List.getElem_mem hj)
    rw[hq]at this;cases this
  ·intro b len e hb
   by_cases hlt:b<h.length
   ·rcases low b _ hlt hb with⟨cs',l,e1,h1,h3⟩|⟨q,e',e1,h1⟩
    ·cases e1
    ·cases e1
     obtain⟨r,cap,C,i,g1,g2⟩:=k'.tok b len e h1
     exact⟨r,cap,C,i,by simp only[Sh.cut];rw[if_pos hlt];exact g1,g2⟩
   ·have hb2:=(wc.1 hb).1
    have hj:b-h.length<mv.length:=by omega
    have:=hhigh (b-h.length) _ (wa hj)
    rw[show h.length+(b-h.length)=b by omega,hb]at this
    obtain⟨r,cap,C,i,g1,g2⟩:=k'.tok _ len e this.symm
    exact⟨r,cap,C,i,by simp only[Sh.cut];rw[if_neg hlt,wa hj];exact g1,g2⟩
  ·intro b r hb
   obtain⟨hlt,h1⟩:=cρ b r hb
   obtain⟨cs,h3⟩:=k'.ρdom b r h1
   obtain⟨x,hxb⟩:=h2lt b hlt
   rcases low b x hlt hxb with⟨cs',l,rfl,_,_⟩|⟨q,e,rfl,h4⟩
   ·exact⟨l,hxb⟩
   ·rw[h3]at h4;cases h4
  ·intro b x hb
   rcases cτ b x hb with⟨hlt,h1⟩|⟨j,t,rfl,hm,h1⟩
   ·obtain⟨e,h3⟩:=k'.τdom b x h1
    obtain⟨y,hyb⟩:=h2lt b hlt
    rcases low b y hlt hyb with⟨cs',l,rfl,h4,_⟩|⟨q,e',rfl,h4⟩
    ·rw[h3]at h4;cases h4
    ·rw[h3]at h4;cases h4;exact⟨e,hyb⟩
   ·obtain⟨e,h3⟩:=k'.τdom t x h1
    exact⟨e,by rw[hhigh j t hm];exact h3⟩
  ·intro b b' r hb hb'
   exact k'.injρ b b' r (cρ b r hb).2 (cρ b' r hb').2
  ·intro b b' r c c' l l' hb hb'
   rcases cτ b _ hb with⟨h1,h2'⟩|⟨j,t,rfl,hm,h2'⟩
   ·rcases cτ b' _ hb' with⟨h3,h4⟩|⟨j',t',rfl,hm',h4⟩
    ·exact k'.injτ b b' r c c' l l' h2' h4
    ·have:=k'.injτ b t' r c c' l l' h2' h4
     have:=(hmv.tk t' (wb hm')).1
     omega
   ·rcases cτ b' _ hb' with⟨h3,h4⟩|⟨j',t',rfl,hm',h4⟩
    ·have:=k'.injτ t b' r c c' l l' h2' h4
     have:=(hmv.tk t (wb hm)).1
     omega
    ·have:=k'.injτ t t' r c c' l l' h2' h4
     subst this
     have hj:=(wc.1 hm).1
     have hj':=(wc.1 hm').1
     have:=(List.getElem?_inj hj hmv.nd).1 (hm.trans hm'.symm)
     omega
  ·intro b b' r c l hb hb'
   have h1:=(cρ b r hb).2
   rcases cτ b' _ hb' with⟨_,h4⟩|⟨j',t',_,_,h4⟩
   ·exact k'.apart b b' r c l h1 h4
   ·exact k'.apart b t' r c l h1 h4
  ·intro x o hxo
   obtain⟨h1,h3,h4⟩:=k'.frz x o hxo
   refine⟨h1,fun b hb=>h3 b (cρ b x hb).2,fun t c l ht=> ?_⟩
   rcases cτ t _ ht with⟨_,h5⟩|⟨j,t',_,_,h5⟩
   ·exact h4 t c l h5
   ·exact h4 t' c l h5
  ·exact k'.laid
theorem qki [Tabs P] {S S':Sh} {h h':qab} {w w':World} {d:List Nat} {a:AVal} {v:Value} (k:WR P S h w) (st:Step P S w S' h' w') (hk:KeepH h h' d) (hv:VR S' a v):
 ∃S2,Step P S w S2 ((qbg h.length a h' d).2.of h) w'∧VR S2 (qbg h.length a h' d).1 v:=by
 unfold qbg
 simp only
 have hdl:∀b,b∈qgf (d.filter (· <h.length))→b<h.length:=fun b hb=>by
  have:=(ww.1 (qim.1 hb)).2
  simpa using this
 have hdn:∀b,b<h.length→b∉qgf (d.filter (· <h.length))→h'[b]? =h[b]? :=fun b hb hm=>hk.2 b hb (fun hm'=>hm (qim.2 (ww.2 ⟨hm',by simpa using hb⟩)))
 split
 ·rename_i hlow
  have hv3:=(qkg hv).cutA (mv:=[]) hlow
  split
  ·rename_i hd0
   obtain⟨h1,h2⟩:=cut_wr (mv:=[]) (h2:=h) k st.wr st.ext ⟨w6,fun t ht=>by cases ht⟩ (by simp)
    (fun b x hb hx=> .inl ⟨by rw[hdn b hb (by rw[hd0];simp)];exact hx,hx⟩) (fun j t hj=>by simp at hj)
   exact⟨_,⟨h1,st.fr,h2⟩,hv3⟩
  ·split
   ·rename_i kk mv hl
    obtain⟨q1,q2,q3⟩:=qob _ _ [] kk mv hl ⟨w6,fun t ht=>by cases ht⟩ (qu4 _) (fun b hb=>by rw[wq];have:=hdl b hb;have:=hk.1;omega)
    obtain⟨l1,l2⟩:=qi0 _ _ _ _ _ _ _ hl
    have hkl:kk.length=h.length:=by rw[l1,wq];have:=hk.1;omega
    have hsome:∀t∈mv,(h'[t]?).isSome=true:=fun t ht=>by obtain⟨_,q,e,hq⟩:=q2.tk t ht;rw[hq];rfl
    have hfm:∀j:Nat,(mv.filterMap fun t=>h'[t]?)[j]? =(mv[j]?).bind fun t=>h'[t]? :=qry mv hsome
    have hfl:(mv.filterMap fun t=>h'[t]?).length=mv.length:=by
     have:∀l:List Nat,(∀t∈l,(h'[t]?).isSome=true)→(l.filterMap fun t=>h'[t]?).length=l.length:=by
      intro l
      induction l with
      |nil=>intro _;rfl
      |cons t l ih=>
       intro hl
       obtain⟨b,hb⟩:=wu.1 (hl t (by simp))
       rw[wv hb]
       simp[ih (fun x hx=>hl x (by simp[hx]))]
     exact this mv hsome
    obtain⟨h1,h2⟩:=cut_wr (mv:=mv) (h2:=kk++mv.filterMap fun t=>h'[t]?) k st.wr st.ext q2 (by rw[List.length_append,hkl,hfl])
     (fun b x hb hx=>by
      rw[wh (by omega)]at hx
      by_cases hm:b∈qgf (d.filter (· <h.length))
      ·obtain⟨y,hy,hmb⟩:=q3 b hm
       rw[hx]at hy;cases hy
       exact .inr hmb
      ·rw[l2 b hm,wt hb]at hx
       exact .inl ⟨hx,by rw[←hdn b hb hm];exact hx⟩)
     (fun j t hj=>by
      rw[List.getElem?_append_right (by omega),hkl,show h.length+j-h.length=j by omega,hfm j,hj]
      rfl)
    exact⟨_,⟨h1,st.fr,h2⟩,(qkg hv).cutA hlow⟩
   ·exact⟨S',st,qkg hv⟩
 ·exact⟨S',st,qkg hv⟩
structure qnu (P:Program) (cmp:List TypeId):Prop where
 mix:P.follows .mixedOrders=true
 cmp:∀t∈cmp,qgg P t=true
 name:∀(f:FuncId) (fn:Func),P.funcs[f]? =some fn→(fn.name== "runtime.NumGoroutine")=false
theorem fnA_sound [Tabs P] (hp:qnu P cmp) (hcall:qd7 P call) (hkeep:qa4 call) {lp:Lp} (hlp:LpOk lp):qd7 P (fnA P cmp call lp):=by
 intro f args h r e
 unfold fnA at e
 split at e
 ·cases e
 ·rename_i fn hfn
  split at e
  ·cases e
  ·rename_i c hc
   refine⟨⟨fn,hfn,by rw[hc];rfl,hp.name f fn hfn⟩,fun S w vs k ha=> ?_⟩
   refine calls_of_wp hfn hc ?_
   have hts:VRl S (args++List.replicate (fn.ntmps-args.length) .undef) (vs++Array.replicate (fn.ntmps-vs.size) undef).toList:=by
    rw[Array.toList_append,Array.toList_replicate]
    refine ha.append ?_
    have:args.length=vs.size:=by rw[ha.1];exact Array.length_toList
    rw[this]
    exact .replicate S _
   have fin:∀(s:St) (S':Sh) (w':World) (a':Act),KeepH h s.heap s.dirty→Step P S w S' s.heap w'→VRl S' s.tmps a'.tmps.toList→a'.defers=[]→
    (match resA P fn.results.toList s with|some vs=>some (CR.ret (qbg h.length (qb5 vs) s.heap s.dirty).1 (qbg h.length (qb5 vs) s.heap s.dirty).2)|none=>none)=some r→
    a'.defers=[]∧∃v,(results fn a'.tmps).run P w'= .ok v w'∧qhk P S h w r (.returned v) w':=by
    intro s S' w' a' hk st ht hd e
    split at e
    ·rename_i us hus
     cases e
     obtain⟨xs,g1,g2⟩:=qmv st.wr ht fn.results.toList us hus
     have hrun:(results fn a'.tmps).run P w'= .ok (qw1 xs) w':=by
      rw[qqt,Sem.run_bind,Array.mapM_eq_mapM_toList,Sem.run_map,g1]
      simp only[Result.andThen_ok]
      match xs with
      |[]=>rfl
      |[x]=>rfl
      |x::y::z=>rfl
     have hvr:VR S' (qb5 us) (qw1 xs):=by
      match us,xs,g2 with
      |[],[],g2=>exact VR.tuple' g2
      |[u],[x],g2=>exact g2.head
      |u::u'::us,x::y::z,g2=>exact VR.tuple' g2
      |[],x::y,g2=>exact absurd g2.1 (by simp)
      |[u],[],g2=>exact absurd g2.1 (by simp)
      |[u],x::y::z,g2=>exact absurd g2.1 (by simp)
      |u::u'::us,[],g2=>exact absurd g2.1 (by simp)
      |u::u'::us,[x],g2=>exact absurd g2.1 (by simp)
     obtain⟨S2,h1,h2⟩:=qki k st hk hvr
     exact⟨hd,_,hrun,_,S2,rfl,h1,h2⟩
    ·cases e
   split at e
   ·rename_i s hs
    refine qg7 hp.mix hp.cmp hcall hkeep hlp (ds:=[]) c _ _ hs _ S w _ k hts rfl ?_
    intro S' w' a' st ht hd
    exact fin s S' w' a' (qd5 hkeep hlp _ _ _ hs).1 st (ht.vr (by simp)) hd e
   ·rename_i s hs
    refine qg7 hp.mix hp.cmp hcall hkeep hlp (ds:=[]) c _ _ hs _ S w _ k hts rfl ?_
    intro S' w' a' st ht hd
    exact fin s S' w' a' (qd5 hkeep hlp _ _ _ hs).1 st (ht.vr (by simp)) hd e
   ·rename_i u s hs
    cases e
    refine qg7 hp.mix hp.cmp hcall hkeep hlp (ds:=[]) c _ _ hs _ S w _ k hts rfl ?_
    intro S' w' a' st ht hd v hv
    obtain⟨S2,h1,h2⟩:=qki k st (qd5 hkeep hlp _ _ _ hs).1 hv
    exact⟨hd,v,S2,rfl,h1,h2⟩
   ·cases e
structure ExtOk (P:Program) [Tabs P] (ext:Ext):Prop where
 call:∀f g,ext f=some g→∀args h r,g args h=some r→(∃fn,P.funcs[f]? =some fn∧fn.body.isSome=true)∧
  ∀(S:Sh) (w:World) (vs:Array Value),WR P S h w→VRl S args vs.toList→Calls P f vs w (qhk P S h w r)
 keep:∀f g,ext f=some g→∀args h r,g args h=some r→qg9 h r.eff∧LowC h r
theorem evN_ok [Tabs P] {ext:Ext} (hp:qnu P cmp) (hx:ExtOk P ext):∀n,qd7 P (evN P cmp ext n)∧qa4 (evN P cmp ext n)
 |0=>⟨(fun f args h r e=>by cases e),(fun f args h r e=>by cases e)⟩
 |n+1=>by
  obtain⟨h1,h2⟩:=evN_ok hp hx n
  constructor
  ·intro f args h r e
   unfold evN at e
   split at e
   ·rename_i g hg
    obtain⟨⟨fn,hfn,hb⟩,hc⟩:=hx.call f g hg args h r e
    exact⟨⟨fn,hfn,hb,hp.name f fn hfn⟩,hc⟩
   ·exact fnA_sound hp h1 h2 (qqs n) f args h r e
  ·intro f args h r e
   unfold evN at e
   split at e
   ·rename_i g hg;exact hx.keep f g hg args h r e
   ·exact q0r h2 (qqs n) f args h r e
end Go.Ab
namespace Go.Ab
variable {P:Program} {cmp:List TypeId}
def qjf (c c':Call):Prop:=∀f a h r,c f a h=some r→c' f a h=some r
def FunLe (f f':St→Option (AEx×St)):Prop:=∀s x,f s=some x→f' s=some x
def LpLe (l l':Lp):Prop:=∀f f' s x,FunLe f f'→l f s=some x→l' f' s=some x
theorem q0s {c c':Call} (hc:qjf c c') {h:qab} {g:FuncId} {args:List AVal} {r:CR} (e:qai c h g args=some r):qai c' h g args=some r:=by
 unfold qai at e ⊢
 simp only at e ⊢
 split at e
 ·rename_i hok
  rw[if_pos hok]
  split at e
  ·rename_i v f hr;simp only[hc _ _ _ _ hr];exact e
  ·rename_i v f hr;simp only[hc _ _ _ _ hr];exact e
  ·cases e
 ·cases e
theorem qsi {c c':Call} (hc:qjf c c') {o:Oper} {ts:List AVal} {h:qab} {r:OR} (e:opA P cmp c o ts h=some r):opA P cmp c' o ts h=some r:=by
 obtain⟨dst,op,type,pos,after,guard⟩:=o
 cases op with
 |call cl=>
  obtain⟨callee,args,ats⟩:=cl
  cases callee with
  |value f=>
   simp only[opA]at e ⊢
   split at e
   ·rename_i g first cap as hf has
    split at e
    ·rename_i r' hr'
     simp only[q0s hc hr']
     exact e
    ·cases e
   ·cases e
  |builtin b=>cases b<;>exact e
  |invoke r m=>exact e
 |makeFunc fn a b=>cases fn<;>exact e
 |_=>exact e
theorem qtp {c c':Call} (hc:qjf c c') (ops:List Oper):∀(l:List Oper) (s:St) (x:AEx×St),opsA P cmp c ops l s=some x→opsA P cmp c' ops l s=some x
 |[],s,x,e=>e
 |o::r,s,x,e=>by
  unfold opsA at e ⊢
  split at e
  ·rename_i hw
   try simp only[hw]
   split at e
   ·rename_i v f hv;simp only[qsi hc hv];exact qtp hc ops r _ x e
   ·rename_i v f hv;simp only[qsi hc hv];exact e
   ·cases e
  ·exact qtp hc ops r _ x e
  ·cases e
theorem qsj {c:Call} {ops:List Oper} {j:Nat} {s:St} {x:AEx×St} (e:panD P cmp c ops j s=some x):∃o v f,ops[j]? =some o∧qbw ops o s.tmps=some true∧opA P cmp c o s.tmps s.heap=some (.pan v f)∧qmr ops j=true∧x=(.pan v,⟨[],f.of s.heap,f.dirt++s.dirty⟩):=q0q e
theorem qsk {c:Call} {lim:Nat} {ops:List Oper} {j:Nat} {s:St} {o:Oper} {v:AVal} {f:Eff} (ho:ops[j]? =some o) (hw:qbw ops o s.tmps=some true) (hv:opA P cmp c o s.tmps s.heap=some (.pan v f)):qcv P cmp c lim ops j s=none:=by
 unfold qcv
 simp only[ho,hw,hv]
theorem qtq {c c':Call} (hc:qjf c c') {lim:Nat} (ops:List Oper):∀(l:List Nat) (s:St) (x:AEx×St),opsX P cmp c lim ops l s=some x→opsX P cmp c' lim ops l s=some x
 |[],s,x,e=>e
 |j::r,s,x,e=>by
  simp only[opsX]at e ⊢
  split at e
  ·rename_i s1 hs
   have:qcv P cmp c' lim ops j s=some s1:=by
    letI:Tabs P:=⟨fun _=>True⟩
    obtain⟨o,ho,hcase⟩:=qer hs
    unfold qcv
    simp only[ho]
    rcases hcase with⟨hw,v,f,hv,ha,rfl⟩|⟨hw,rfl⟩
    ·simp only[hw,qsi hc hv,ha,if_true]
    ·simp only[hw]
   simp only[this]
   exact qtq hc ops r _ x e
  ·obtain⟨o,v,f,ho,hw,hv,hp,rfl⟩:=qsj e
   have hv':=qsi hc hv
   simp only[qsk ho hw hv',panD,ho,hw,hv',hp,if_true]
theorem qqu {c c':Call} (hc:qjf c c') {l l':Lp} (hl:LpLe l l'):∀(cd:Code) (s:St) (x:AEx×St),qa3 P cmp c l cd s=some x→qa3 P cmp c' l' cd s=some x:=by
 intro cd
 induction cd with
 |skip=>intro s x e;exact e
 |region id ops draw=>
  intro s x e
  cases draw with
  |false=>exact qtp hc _ _ s x e
  |true=>
   simp only[qa3]at e ⊢
   split at e
   ·rename_i hb
    rw[if_pos hb]
    exact qtq hc _ _ _ _ e
   ·cases e
 |seq c1 c2 ih1 ih2=>
  intro s x e
  simp only[qa3]at e ⊢
  split at e
  ·rename_i s' h1;simp only[ih1 _ _ h1];exact ih2 _ _ e
  ·rename_i hn
   have h1:=ih1 _ _ e
   obtain⟨ex,sx⟩:=x
   cases ex with
   |normal=>exact(hn sx e).elim
   |exit id=>simp only[h1]
   |ret=>simp only[h1]
   |pan u=>simp only[h1]
 |cond cc t f ih1 ih2=>
  intro s x e
  simp only[qa3]at e ⊢
  split at e
  ·exact ih1 _ _ e
  ·exact ih2 _ _ e
  ·cases e
 |block id b ih=>
  intro s x e
  simp only[qa3]at e ⊢
  split at e
  ·rename_i j s' hb;simp only[ih _ _ hb];exact e
  ·rename_i hn
   have h1:=ih _ _ e
   obtain⟨ex,sx⟩:=x
   cases ex with
   |normal=>simp only[h1]
   |exit id=>exact(hn id sx e).elim
   |ret=>simp only[h1]
   |pan u=>simp only[h1]
 |loop b ih=>intro s x e;simp only[qa3]at e ⊢;exact hl _ _ _ _ (fun s x h=>ih s x h) e
 |rangeFunc=>intro s x e;cases e
 |exit id=>intro s x e;exact e
 |scope=>intro s x e;cases e
 |label=>intro s x e;cases e
 |goto=>intro s x e;cases e
 |ret=>intro s x e;exact e
 |refuse=>intro s x e;cases e
theorem fnA_le {c c':Call} (hc:qjf c c') {l l':Lp} (hl:LpLe l l'):qjf (fnA P cmp c l) (fnA P cmp c' l'):=by
 intro f args h r e
 unfold fnA at e ⊢
 split at e
 ·cases e
 ·rename_i fn hfn
  split at e
  ·cases e
  ·rename_i cd hb
   split at e
   ·rename_i s hs;simp only[qqu hc hl _ _ _ hs];exact e
   ·rename_i s hs;simp only[qqu hc hl _ _ _ hs];exact e
   ·rename_i v s hs;simp only[qqu hc hl _ _ _ hs];exact e
   ·cases e
theorem qvg:∀n,LpLe (qe4 n) (qe4 (n+1))
 |0,f,f',s,x,_,e=>by cases e
 |n+1,f,f',s,x,hf,e=>by
  unfold qe4 at e ⊢
  split at e
  ·rename_i s' hs;simp only[hf _ _ hs];exact qvg n f f' s' x hf e
  ·rename_i hn
   have h1:=hf _ _ e
   obtain⟨ex,sx⟩:=x
   cases ex with
   |normal=>exact(hn sx e).elim
   |exit id=>simp only[h1]
   |ret=>simp only[h1]
   |pan u=>simp only[h1]
theorem qmh {n m:Nat} (h:n≤m):LpLe (qe4 n) (qe4 m):=by
 induction h with
 |refl=>
  intro f f' s x hf e
  induction n generalizing s with
  |zero=>cases e
  |succ n ih=>
   unfold qe4 at e ⊢
   split at e
   ·rename_i s' hs;simp only[hf _ _ hs];exact ih s' e
   ·rename_i hn
    have h1:=hf _ _ e
    obtain⟨ex,sx⟩:=x
    cases ex with
    |normal=>exact(hn sx e).elim
    |exit id=>simp only[h1]
    |ret=>simp only[h1]
    |pan u=>simp only[h1]
 |step _ ih=>intro f f' s x hf e;exact qvg _ f' f' s x (fun _ _ h=>h) (ih f f' s x hf e)
theorem evN_le1 {ext:Ext}:∀n,qjf (evN P cmp ext n) (evN P cmp ext (n+1))
 |0,f,a,h,r,e=>by cases e
 |n+1,f,a,h,r,e=>by
  unfold evN at e ⊢
  split at e
  ·exact e
  ·exact fnA_le (evN_le1 n) (qvg n) f a h r e
theorem qph {ext:Ext} {n m:Nat} (h:n≤m):qjf (evN P cmp ext n) (evN P cmp ext m):=by
 induction h with
 |refl=>exact fun f a h r e=>e
 |step _ ih=>exact fun f a h r e=>evN_le1 _ f a h r (ih f a h r e)
noncomputable def lim {α:Type} (g:Nat→Option α):Option α:=open Classical in if h:∃r,∃n,g n=some r then some h.choose else none
theorem qin {α:Type} {g:Nat→Option α} {r:α} (h:lim g=some r):∃n,g n=some r:=by
 unfold lim at h
 split at h
 ·rename_i hx;cases h;exact hx.choose_spec
 ·cases h
theorem q0t {α:Type} {g:Nat→Option α} (hm:∀n m r,n≤m→g n=some r→g m=some r) {n:Nat} {r:α} (h:g n=some r):lim g=some r:=by
 unfold lim
 have hx:∃r,∃n,g n=some r:=⟨r,n,h⟩
 rw[dif_pos hx]
 obtain⟨m,hm'⟩:=hx.choose_spec
 have h1:=hm n (max n m) r (wi _ _) h
 have h2:=hm m (max n m) _ (wf _ _) hm'
 rw[h1]at h2
 rw[Option.some.inj h2]
noncomputable def lpC:Lp:=fun f s=>lim fun n=>qe4 n f s
noncomputable def evC (P:Program) (cmp:List TypeId) (ext:Ext):Call:=fun f a h=>lim fun n=>evN P cmp ext n f a h
theorem qw2 {f:St→Option (AEx×St)} {s:St} {x:AEx×St} {n:Nat} (h:qe4 n f s=some x):lpC f s=some x:=
 q0t (fun _ _ _ hnm e=>qmh hnm f f _ _ (fun _ _ h=>h) e) h
theorem qsl {ext:Ext} {n:Nat} {f:FuncId} {a:List AVal} {h:qab} {r:CR} (e:evN P cmp ext n f a h=some r):evC P cmp ext f a h=some r:=
 q0t (fun _ _ _ hnm e=>qph hnm _ _ _ _ e) e
theorem qh1 (f:St→Option (AEx×St)) (s:St):lpC f s=match f s with|some (.normal,s')=>lpC f s'|r=>r:=by
 apply w9
 intro x
 constructor
 ·intro h
  obtain⟨n,hn⟩:=qin h
  cases n with
  |zero=>cases hn
  |succ n=>
   unfold qe4 at hn
   split at hn
   ·rename_i s' hs;simp only[hs];exact qw2 hn
   ·rename_i hne
    obtain⟨ex,sx⟩:=x
    cases ex with
    |normal=>exact(hne sx hn).elim
    |exit id=>simp only[hn]
    |ret=>simp only[hn]
    |pan u=>simp only[hn]
 ·intro h
  split at h
  ·rename_i s' hs
   obtain⟨n,hn⟩:=qin h
   exact qw2 (n:=n+1) (by unfold qe4;simp only[hs];exact hn)
  ·rename_i hn
   refine qw2 (n:=1) ?_
   unfold qe4
   obtain⟨ex,sx⟩:=x
   cases ex with
   |normal=>exact(hn sx h).elim
   |exit id=>simp only[h]
   |ret=>simp only[h]
   |pan u=>simp only[h]
theorem qnv:LpOk lpC:=fun f s x h=>by obtain⟨n,hn⟩:=qin h;exact qqs n f s x hn
section cont
variable {ext:Ext}
theorem q36 {h:qab} {g:FuncId} {args:List AVal} {r:CR} (e:qai (evC P cmp ext) h g args=some r):∃n,qai (evN P cmp ext n) h g args=some r:=by
 unfold qai at e
 simp only at e
 split at e
 ·rename_i hok
  split at e
  ·rename_i v f hr
   obtain⟨n,hn⟩:=qin hr
   exact⟨n,by unfold qai;simp only[hok,if_true,hn];exact e⟩
  ·rename_i v f hr
   obtain⟨n,hn⟩:=qin hr
   exact⟨n,by unfold qai;simp only[hok,if_true,hn];exact e⟩
  ·cases e
 ·cases e
theorem qqv {o:Oper} {ts:List AVal} {h:qab} {r:OR} (e:opA P cmp (evC P cmp ext) o ts h=some r):∃n,opA P cmp (evN P cmp ext n) o ts h=some r:=by
 obtain⟨dst,op,type,pos,after,guard⟩:=o
 cases op with
 |call cl=>
  obtain⟨callee,args,ats⟩:=cl
  cases callee with
  |value f=>
   simp only[opA]at e ⊢
   split at e
   ·rename_i g first cap as hf has
    split at e
    ·rename_i r' hr'
     obtain⟨n,hn⟩:=q36 hr'
     exact⟨n,by simp only[hn];exact e⟩
    ·cases e
   ·cases e
  |builtin b=>exact⟨0,by cases b<;>exact e⟩
  |invoke r m=>exact⟨0,e⟩
 |makeFunc fn a b=>exact⟨0,by cases fn<;>exact e⟩
 |_=>exact⟨0,e⟩
theorem qsm (ops:List Oper):∀(l:List Oper) (s:St) (x:AEx×St),opsA P cmp (evC P cmp ext) ops l s=some x→∃n,opsA P cmp (evN P cmp ext n) ops l s=some x
 |[],s,x,e=>⟨0,e⟩
 |o::r,s,x,e=>by
  unfold opsA at e
  split at e
  ·rename_i hw
   split at e
   ·rename_i v f hv
    obtain⟨n,hn⟩:=qqv hv
    obtain⟨m,hm⟩:=qsm ops r _ x e
    refine⟨max n m,?_⟩
    unfold opsA
    simp only[hw,qsi (qph (wi n m)) hn]
    exact qtp (qph (wf n m)) ops r _ x hm
   ·rename_i v f hv
    obtain⟨n,hn⟩:=qqv hv
    exact⟨n,by unfold opsA;simp only[hw,hn];exact e⟩
   ·cases e
  ·rename_i hw
   obtain⟨m,hm⟩:=qsm ops r _ x e
   exact⟨m,by unfold opsA;simp only[hw];exact hm⟩
  ·cases e
theorem qza {lm:Nat} (ops:List Oper):∀(l:List Nat) (s:St) (x:AEx×St),opsX P cmp (evC P cmp ext) lm ops l s=some x→∃n,opsX P cmp (evN P cmp ext n) lm ops l s=some x
 |[],s,x,e=>⟨0,e⟩
 |j::r,s,x,e=>by
  simp only[opsX]at e
  split at e
  ·rename_i s1 hs
   have:∃n,qcv P cmp (evN P cmp ext n) lm ops j s=some s1:=by
    letI:Tabs P:=⟨fun _=>True⟩
    obtain⟨o,ho,hcase⟩:=qer hs
    rcases hcase with⟨hw,v,f,hv,ha,rfl⟩|⟨hw,rfl⟩
    ·obtain⟨n,hn⟩:=qqv hv
     exact⟨n,by unfold qcv;simp only[ho,hw,hn,ha,if_true]⟩
    ·exact⟨0,by unfold qcv;simp only[ho,hw]⟩
   obtain⟨n,hn⟩:=this
   obtain⟨m,hm⟩:=qza ops r _ x e
   have h1:=qtq (P:=P) (cmp:=cmp) (qph (P:=P) (cmp:=cmp) (ext:=ext) (wi n m)) (lim:=lm) ops [j] s (.normal,s1) (by simp only[opsX,hn])
   have h2:=qtq (P:=P) (cmp:=cmp) (qph (P:=P) (cmp:=cmp) (ext:=ext) (wf n m)) (lim:=lm) ops r s1 x hm
   refine⟨max n m,?_⟩
   simp only[opsX]at h1 ⊢
   split at h1
   ·rename_i s' hs';cases h1;first|exact h2|(simp only[hs'];exact h2)
   ·obtain⟨_,_,_,_,_,_,_,hx⟩:=qsj h1
    cases hx
  ·obtain⟨o,v,f,ho,hw,hv,hp,rfl⟩:=qsj e
   obtain⟨n,hn⟩:=qqv hv
   exact⟨n,by simp only[opsX,qsk ho hw hn,panD,ho,hw,hn,hp,if_true]⟩
theorem qqw:∀(cd:Code) (s:St) (x:AEx×St),qa3 P cmp (evC P cmp ext) lpC cd s=some x→∃n,qa3 P cmp (evN P cmp ext n) (qe4 n) cd s=some x:=by
 have up:∀{n m:Nat} (h:n≤m) {cd:Code} {s:St} {x:AEx×St},qa3 P cmp (evN P cmp ext n) (qe4 n) cd s=some x→qa3 P cmp (evN P cmp ext m) (qe4 m) cd s=some x:=
  fun h _ _ _ e=>qqu (qph h) (qmh h) _ _ _ e
 intro cd
 induction cd with
 |skip=>intro s x e;exact⟨0,e⟩
 |region id ops draw=>
  intro s x e
  cases draw with
  |false=>exact qsm _ _ s x e
  |true=>
   simp only[qa3]at e
   split at e
   ·rename_i hb
    obtain⟨n,hn⟩:=qza _ _ _ _ e
    exact⟨n,by simp only[qa3];rw[if_pos hb];exact hn⟩
   ·cases e
 |seq c1 c2 ih1 ih2=>
  intro s x e
  simp only[qa3]at e
  split at e
  ·rename_i s' h1
   obtain⟨n,hn⟩:=ih1 _ _ h1
   obtain⟨m,hm⟩:=ih2 _ _ e
   exact⟨max n m,by simp only[qa3,up (wi n m) hn];exact up (wf n m) hm⟩
  ·rename_i hn'
   obtain⟨n,hn⟩:=ih1 _ _ e
   refine⟨n,?_⟩
   simp only[qa3]
   obtain⟨ex,sx⟩:=x
   cases ex with
   |normal=>exact(hn' sx e).elim
   |exit id=>simp only[hn]
   |ret=>simp only[hn]
   |pan u=>simp only[hn]
 |cond cc t f ih1 ih2=>
  intro s x e
  simp only[qa3]at e
  split at e
  ·rename_i hv;obtain⟨n,hn⟩:=ih1 _ _ e;exact⟨n,by simp only[qa3,hv];exact hn⟩
  ·rename_i hv;obtain⟨n,hn⟩:=ih2 _ _ e;exact⟨n,by simp only[qa3,hv];exact hn⟩
  ·cases e
 |block id b ih=>
  intro s x e
  simp only[qa3]at e
  split at e
  ·rename_i j s' hb;obtain⟨n,hn⟩:=ih _ _ hb;exact⟨n,by simp only[qa3,hn];exact e⟩
  ·rename_i hn'
   obtain⟨n,hn⟩:=ih _ _ e
   refine⟨n,?_⟩
   simp only[qa3]
   obtain⟨ex,sx⟩:=x
   cases ex with
   |normal=>simp only[hn]
   |exit id=>exact(hn' id sx e).elim
   |ret=>simp only[hn]
   |pan u=>simp only[hn]
 |loop b ih=>
  intro s x e
  simp only[qa3]at e
  obtain⟨k,hk⟩:=qnv _ _ _ e
  clear e
  have:∃n,∀m,n≤m→∃q,qe4 q (qa3 P cmp (evN P cmp ext m) (qe4 m) b) s=some x:=by
   induction hk with
   |stop he hx=>
    rename_i s x
    obtain⟨n,hn⟩:=ih _ _ he
    refine⟨n,fun m hm=>⟨1,?_⟩⟩
    have h1:=up hm hn
    unfold qe4
    obtain⟨ex,sx⟩:=x
    cases ex with
    |normal=>exact(hx sx rfl).elim
    |exit id=>simp only[h1]
    |ret=>simp only[h1]
    |pan u=>simp only[h1]
   |again he _ ih2=>
    rename_i k s s' x _
    obtain⟨n,hn⟩:=ih _ _ he
    obtain⟨n2,hn2⟩:=ih2
    refine⟨max n n2,fun m hm=> ?_⟩
    obtain⟨q,hq⟩:=hn2 m (by omega)
    exact⟨q+1,by unfold qe4;simp only[up (by omega:n≤m) hn];exact hq⟩
  obtain⟨n,hn⟩:=this
  obtain⟨q,hq⟩:=hn n (Nat.le_refl _)
  refine⟨max n q,?_⟩
  simp only[qa3]
  exact qmh (wf n q) _ _ _ _ (fun s x h=>up (wi n q) h) hq
 |rangeFunc=>intro s x e;cases e
 |exit id=>intro s x e;exact⟨0,e⟩
 |scope=>intro s x e;cases e
 |label=>intro s x e;cases e
 |goto=>intro s x e;cases e
 |ret=>intro s x e;exact⟨0,e⟩
 |refuse=>intro s x e;cases e
theorem fnA_cont {f:FuncId} {a:List AVal} {h:qab} {r:CR} (e:fnA P cmp (evC P cmp ext) lpC f a h=some r):∃n,fnA P cmp (evN P cmp ext n) (qe4 n) f a h=some r:=by
 unfold fnA at e
 split at e
 ·cases e
 ·rename_i fn hfn
  split at e
  ·cases e
  ·rename_i cd hb
   split at e
   ·rename_i s hs;obtain⟨n,hn⟩:=qqw _ _ _ hs;exact⟨n,by unfold fnA;simp only[hfn,hb,hn];exact e⟩
   ·rename_i s hs;obtain⟨n,hn⟩:=qqw _ _ _ hs;exact⟨n,by unfold fnA;simp only[hfn,hb,hn];exact e⟩
   ·rename_i v s hs;obtain⟨n,hn⟩:=qqw _ _ _ hs;exact⟨n,by unfold fnA;simp only[hfn,hb,hn];exact e⟩
   ·cases e
theorem evC_eq {f:FuncId} (hx:ext f=none) (a:List AVal) (h:qab):evC P cmp ext f a h=fnA P cmp (evC P cmp ext) lpC f a h:=by
 apply w9
 intro r
 constructor
 ·intro e
  obtain⟨n,hn⟩:=qin e
  cases n with
  |zero=>cases hn
  |succ n=>
   unfold evN at hn
   simp only[hx]at hn
   exact fnA_le (fun f a h r e=>qsl e) (fun f f' s x hf e=>qw2 (n:=n) (qmh (Nat.le_refl n) f f' s x hf e)) f a h r hn
 ·intro e
  obtain⟨n,hn⟩:=fnA_cont e
  exact qsl (n:=n+1) (by unfold evN;simp only[hx];exact hn)
theorem qtr {f:FuncId} {g:List AVal→qab→Option CR} (hx:ext f=some g) (a:List AVal) (h:qab):evC P cmp ext f a h=g a h:=by
 apply w9
 intro r
 constructor
 ·intro e
  obtain⟨n,hn⟩:=qin e
  cases n with
  |zero=>cases hn
  |succ n=>unfold evN at hn;simp only[hx]at hn;exact hn
 ·intro e
  exact qsl (n:=1) (by unfold evN;simp only[hx];exact e)
theorem evC_ok [Tabs P] (hp:qnu P cmp) (hx:ExtOk P ext):qd7 P (evC P cmp ext):=fun f args h r e=>by
 obtain⟨n,hn⟩:=qin e
 exact(evN_ok hp hx n).1 f args h r hn
end cont
end Go.Ab
