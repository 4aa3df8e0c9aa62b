/- The evaluator without a bound on rounds and calls. -/
import Derived.Test.YtngklkmeknmloaaGreatDoorAbCode5
set_option linter.unusedSimpArgs false
set_option linter.unusedVariables false
set_option maxRecDepth 100000
set_option maxHeartbeats 4000000
open Nat renaming le_max_right→wa,le_max_left→wb,le_refl→wd
open Option renaming ext→wc
namespace Go.Ab
variable {P:Program} {cmp:List TypeId}
def qb7 (c c':Call):Prop:=∀f a h r,c f a h=some r→c' f a h=some r
def FunLe (f f':St→Option (AEx×St)):Prop:=∀s x,f s=some x→f' s=some x
def LpLe (l l':Lp):Prop:=∀f f' s x,FunLe f f'→l f s=some x→l' f' s=some x
theorem qp3 {c c':Call} (hc:qb7 c c') {h:qaa} {g:FuncId} {args:List AVal} {r:CR} (e:qa7 c h g args=some r):qa7 c' h g args=some r:=by
 unfold qa7 at e ⊢
 simp only at e ⊢
 split at e
 ·rename_i hok
  rw[if_pos hok]
  split at e
  ·rename_i v f hr;simp only[hc _ _ _ _ hr];exact e
  ·rename_i v f hr;simp only[hc _ _ _ _ hr];exact e
  ·cases e
 ·cases e
theorem qgx {c c':Call} (hc:qb7 c c') {o:Oper} {ts:List AVal} {h:qaa} {r:OR} (e:opA P cmp c o ts h=some r):opA P cmp c' o ts h=some r:=by
 obtain⟨dst,op,type,pos,after,guard⟩:=o
 cases op with
 |call cl=>
  obtain⟨callee,args,ats⟩:=cl
  cases callee with
  |value f=>
   simp only[opA]at e ⊢
   split at e
   ·rename_i g first cap as hf has
    split at e
    ·rename_i r' hr'
     simp only[qp3 hc hr']
     exact e
    ·cases e
   ·cases e
  |builtin b=>cases b<;>exact e
  |invoke r m=>exact e
 |makeFunc fn a b=>cases fn<;>exact e
 |makeMap t q=>cases q<;>exact e
 |_=>exact e
theorem qhw {c c':Call} (hc:qb7 c c') (ops:List Oper):∀(l:List Oper) (s:St) (x:AEx×St),opsA P cmp c ops l s=some x→opsA P cmp c' ops l s=some x
 |[],s,x,e=>e
 |o::r,s,x,e=>by
  unfold opsA at e ⊢
  split at e
  ·rename_i hw
   try simp only[hw]
   split at e
   ·rename_i v f hv;simp only[qgx hc hv];exact qhw hc ops r _ x e
   ·rename_i v f hv;simp only[qgx hc hv];exact e
   ·cases e
  ·exact qhw hc ops r _ x e
  ·cases e
theorem qj1 {c:Call} {ops:List Oper} {j:Nat} {s:St} {x:AEx×St} (e:panD P cmp c ops j s=some x):∃o v f,ops[j]? =some o∧qap ops o s.tmps=some true∧opA P cmp c o s.tmps s.heap=some (.pan v f)∧qf4 ops j=true∧x=(.pan v,⟨[],f.of s.heap,f.dirt++s.dirty⟩):=qp0 e
theorem qj2 {c:Call} {lim:Nat} {ops:List Oper} {j:Nat} {s:St} {o:Oper} {v:AVal} {f:Eff} (ho:ops[j]? =some o) (hw:qap ops o s.tmps=some true) (hv:opA P cmp c o s.tmps s.heap=some (.pan v f)):qay P cmp c lim ops j s=none:=by
 unfold qay
 simp only[ho,hw,hv]
theorem qk4 {c c':Call} (hc:qb7 c c') {lim:Nat} (ops:List Oper):∀(l:List Nat) (s:St) (x:AEx×St),opsX P cmp c lim ops l s=some x→opsX P cmp c' lim ops l s=some x
 |[],s,x,e=>e
 |j::r,s,x,e=>by
  simp only[opsX]at e ⊢
  split at e
  ·rename_i s1 hs
   have:qay P cmp c' lim ops j s=some s1:=by
    letI:Tabs P:=⟨fun _=>True⟩
    obtain⟨o,ho,hcase⟩:=qbe hs
    unfold qay
    simp only[ho]
    rcases hcase with⟨hw,v,f,hv,ha,rfl⟩|⟨hw,rfl⟩
    ·simp only[hw,qgx hc hv,ha,if_true]
    ·simp only[hw]
   simp only[this]
   exact qk4 hc ops r _ x e
  ·obtain⟨o,v,f,ho,hw,hv,hp,rfl⟩:=qj1 e
   have hv':=qgx hc hv
   simp only[qj2 ho hw hv',panD,ho,hw,hv',hp,if_true]
theorem qdh {c c':Call} (hc:qb7 c c') {l l':Lp} (hl:LpLe l l'):∀(cd:Code) (s:St) (x:AEx×St),qak P cmp c l cd s=some x→qak P cmp c' l' cd s=some x:=by
 intro cd
 induction cd with
 |skip=>intro s x e;exact e
 |region id ops draw=>
  intro s x e
  cases draw with
  |false=>exact qhw hc _ _ s x e
  |true=>
   simp only[qak]at e ⊢
   split at e
   ·rename_i hb
    rw[if_pos hb]
    exact qk4 hc _ _ _ _ e
   ·cases e
 |seq c1 c2 ih1 ih2=>
  intro s x e
  simp only[qak]at e ⊢
  split at e
  ·rename_i s' h1;simp only[ih1 _ _ h1];exact ih2 _ _ e
  ·rename_i hn
   have h1:=ih1 _ _ e
   obtain⟨ex,sx⟩:=x
   cases ex with
   |normal=>exact(hn sx e).elim
   |exit id=>simp only[h1]
   |ret=>simp only[h1]
   |pan u=>simp only[h1]
 |cond cc t f ih1 ih2=>
  intro s x e
  simp only[qak]at e ⊢
  split at e
  ·exact ih1 _ _ e
  ·exact ih2 _ _ e
  ·cases e
 |block id b ih=>
  intro s x e
  simp only[qak]at e ⊢
  split at e
  ·rename_i j s' hb;simp only[ih _ _ hb];exact e
  ·rename_i hn
   have h1:=ih _ _ e
   obtain⟨ex,sx⟩:=x
   cases ex with
   |normal=>simp only[h1]
   |exit id=>exact(hn id sx e).elim
   |ret=>simp only[h1]
   |pan u=>simp only[h1]
 |loop b ih=>intro s x e;simp only[qak]at e ⊢;exact hl _ _ _ _ (fun s x h=>ih s x h) e
 |rangeFunc=>intro s x e;cases e
 |exit id=>intro s x e;exact e
 |scope=>intro s x e;cases e
 |label=>intro s x e;cases e
 |goto=>intro s x e;cases e
 |ret=>intro s x e;exact e
 |refuse=>intro s x e;cases e
theorem qj3 {c c':Call} (hc:qb7 c c') {l l':Lp} (hl:LpLe l l'):qb7 (fnA P cmp c l) (fnA P cmp c' l'):=by
 intro f args h r e
 unfold fnA at e ⊢
 split at e
 ·cases e
 ·rename_i fn hfn
  split at e
  ·cases e
  ·rename_i cd hb
   split at e
   ·rename_i s hs;simp only[qdh hc hl _ _ _ hs];exact e
   ·rename_i s hs;simp only[qdh hc hl _ _ _ hs];exact e
   ·rename_i v s hs;simp only[qdh hc hl _ _ _ hs];exact e
   ·cases e
theorem qml:∀n,LpLe (qbb n) (qbb (n+1))
 |0,f,f',s,x,_,e=>by cases e
 |n+1,f,f',s,x,hf,e=>by
  unfold qbb at e ⊢
  split at e
  ·rename_i s' hs;simp only[hf _ _ hs];exact qml n f f' s' x hf e
  ·rename_i hn
   have h1:=hf _ _ e
   obtain⟨ex,sx⟩:=x
   cases ex with
   |normal=>exact(hn sx e).elim
   |exit id=>simp only[h1]
   |ret=>simp only[h1]
   |pan u=>simp only[h1]
theorem qeu {n m:Nat} (h:n≤m):LpLe (qbb n) (qbb m):=by
 induction h with
 |refl=>
  intro f f' s x hf e
  induction n generalizing s with
  |zero=>cases e
  |succ n ih=>
   unfold qbb at e ⊢
   split at e
   ·rename_i s' hs;simp only[hf _ _ hs];exact ih s' e
   ·rename_i hn
    have h1:=hf _ _ e
    obtain⟨ex,sx⟩:=x
    cases ex with
    |normal=>exact(hn sx e).elim
    |exit id=>simp only[h1]
    |ret=>simp only[h1]
    |pan u=>simp only[h1]
 |step _ ih=>intro f f' s x hf e;exact qml _ f' f' s x (fun _ _ h=>h) (ih f f' s x hf e)
theorem evN_le1 {ext:Ext}:∀n,qb7 (evN P cmp ext n) (evN P cmp ext (n+1))
 |0,f,a,h,r,e=>by cases e
 |n+1,f,a,h,r,e=>by
  unfold evN at e ⊢
  split at e
  ·exact e
  ·exact qj3 (evN_le1 n) (qml n) f a h r e
theorem qhx {ext:Ext} {n m:Nat} (h:n≤m):qb7 (evN P cmp ext n) (evN P cmp ext m):=by
 induction h with
 |refl=>exact fun f a h r e=>e
 |step _ ih=>exact fun f a h r e=>evN_le1 _ f a h r (ih f a h r e)
noncomputable def lim {α:Type} (g:Nat→Option α):Option α:=open Classical in if h:∃r,∃n,g n=some r then some h.choose else none
theorem qdl {α:Type} {g:Nat→Option α} {r:α} (h:lim g=some r):∃n,g n=some r:=by
 unfold lim at h
 split at h
 ·rename_i hx;cases h;exact hx.choose_spec
 ·cases h
theorem qp4 {α:Type} {g:Nat→Option α} (hm:∀n m r,n≤m→g n=some r→g m=some r) {n:Nat} {r:α} (h:g n=some r):lim g=some r:=by
 unfold lim
 have hx:∃r,∃n,g n=some r:=⟨r,n,h⟩
 rw[dif_pos hx]
 obtain⟨m,hm'⟩:=hx.choose_spec
 have h1:=hm n (max n m) r (wb _ _) h
 have h2:=hm m (max n m) _ (wa _ _) hm'
 rw[h1]at h2
 rw[Option.some.inj h2]
noncomputable def lpC:Lp:=fun f s=>lim fun n=>qbb n f s
noncomputable def evC (P:Program) (cmp:List TypeId) (ext:Ext):Call:=fun f a h=>lim fun n=>evN P cmp ext n f a h
theorem qj4 {f:St→Option (AEx×St)} {s:St} {x:AEx×St} {n:Nat} (h:qbb n f s=some x):lpC f s=some x:=
 qp4 (fun _ _ _ hnm e=>qeu hnm f f _ _ (fun _ _ h=>h) e) h
theorem qhy {ext:Ext} {n:Nat} {f:FuncId} {a:List AVal} {h:qaa} {r:CR} (e:evN P cmp ext n f a h=some r):evC P cmp ext f a h=some r:=
 qp4 (fun _ _ _ hnm e=>qhx hnm _ _ _ _ e) e
theorem lpC_eq (f:St→Option (AEx×St)) (s:St):lpC f s=match f s with|some (.normal,s')=>lpC f s'|r=>r:=by
 apply wc
 intro x
 constructor
 ·intro h
  obtain⟨n,hn⟩:=qdl h
  cases n with
  |zero=>cases hn
  |succ n=>
   unfold qbb at hn
   split at hn
   ·rename_i s' hs;simp only[hs];exact qj4 hn
   ·rename_i hne
    obtain⟨ex,sx⟩:=x
    cases ex with
    |normal=>exact(hne sx hn).elim
    |exit id=>simp only[hn]
    |ret=>simp only[hn]
    |pan u=>simp only[hn]
 ·intro h
  split at h
  ·rename_i s' hs
   obtain⟨n,hn⟩:=qdl h
   exact qj4 (n:=n+1) (by unfold qbb;simp only[hs];exact hn)
  ·rename_i hn
   refine qj4 (n:=1) ?_
   unfold qbb
   obtain⟨ex,sx⟩:=x
   cases ex with
   |normal=>exact(hn sx h).elim
   |exit id=>simp only[h]
   |ret=>simp only[h]
   |pan u=>simp only[h]
theorem qhz:LpOk lpC:=fun f s x h=>by obtain⟨n,hn⟩:=qdl h;exact qiq n f s x hn
section cont
variable {ext:Ext}
theorem qsi {h:qaa} {g:FuncId} {args:List AVal} {r:CR} (e:qa7 (evC P cmp ext) h g args=some r):∃n,qa7 (evN P cmp ext n) h g args=some r:=by
 unfold qa7 at e
 simp only at e
 split at e
 ·rename_i hok
  split at e
  ·rename_i v f hr
   obtain⟨n,hn⟩:=qdl hr
   exact⟨n,by unfold qa7;simp only[hok,if_true,hn];exact e⟩
  ·rename_i v f hr
   obtain⟨n,hn⟩:=qdl hr
   exact⟨n,by unfold qa7;simp only[hok,if_true,hn];exact e⟩
  ·cases e
 ·cases e
theorem qit {o:Oper} {ts:List AVal} {h:qaa} {r:OR} (e:opA P cmp (evC P cmp ext) o ts h=some r):∃n,opA P cmp (evN P cmp ext n) o ts h=some r:=by
 obtain⟨dst,op,type,pos,after,guard⟩:=o
 cases op with
 |call cl=>
  obtain⟨callee,args,ats⟩:=cl
  cases callee with
  |value f=>
   simp only[opA]at e ⊢
   split at e
   ·rename_i g first cap as hf has
    split at e
    ·rename_i r' hr'
     obtain⟨n,hn⟩:=qsi hr'
     exact⟨n,by simp only[hn];exact e⟩
    ·cases e
   ·cases e
  |builtin b=>exact⟨0,by cases b<;>exact e⟩
  |invoke r m=>exact⟨0,e⟩
 |makeFunc fn a b=>exact⟨0,by cases fn<;>exact e⟩
 |makeMap t q=>exact⟨0,by cases q<;>exact e⟩
 |_=>exact⟨0,e⟩
theorem qj5 (ops:List Oper):∀(l:List Oper) (s:St) (x:AEx×St),opsA P cmp (evC P cmp ext) ops l s=some x→∃n,opsA P cmp (evN P cmp ext n) ops l s=some x
 |[],s,x,e=>⟨0,e⟩
 |o::r,s,x,e=>by
  unfold opsA at e
  split at e
  ·rename_i hw
   split at e
   ·rename_i v f hv
    obtain⟨n,hn⟩:=qit hv
    obtain⟨m,hm⟩:=qj5 ops r _ x e
    refine⟨max n m,?_⟩
    unfold opsA
    simp only[hw,qgx (qhx (wb n m)) hn]
    exact qhw (qhx (wa n m)) ops r _ x hm
   ·rename_i v f hv
    obtain⟨n,hn⟩:=qit hv
    exact⟨n,by unfold opsA;simp only[hw,hn];exact e⟩
   ·cases e
  ·rename_i hw
   obtain⟨m,hm⟩:=qj5 ops r _ x e
   exact⟨m,by unfold opsA;simp only[hw];exact hm⟩
  ·cases e
theorem qos {lm:Nat} (ops:List Oper):∀(l:List Nat) (s:St) (x:AEx×St),opsX P cmp (evC P cmp ext) lm ops l s=some x→∃n,opsX P cmp (evN P cmp ext n) lm ops l s=some x
 |[],s,x,e=>⟨0,e⟩
 |j::r,s,x,e=>by
  simp only[opsX]at e
  split at e
  ·rename_i s1 hs
   have:∃n,qay P cmp (evN P cmp ext n) lm ops j s=some s1:=by
    letI:Tabs P:=⟨fun _=>True⟩
    obtain⟨o,ho,hcase⟩:=qbe hs
    rcases hcase with⟨hw,v,f,hv,ha,rfl⟩|⟨hw,rfl⟩
    ·obtain⟨n,hn⟩:=qit hv
     exact⟨n,by unfold qay;simp only[ho,hw,hn,ha,if_true]⟩
    ·exact⟨0,by unfold qay;simp only[ho,hw]⟩
   obtain⟨n,hn⟩:=this
   obtain⟨m,hm⟩:=qos ops r _ x e
   have h1:=qk4 (P:=P) (cmp:=cmp) (qhx (P:=P) (cmp:=cmp) (ext:=ext) (wb n m)) (lim:=lm) ops [j] s (.normal,s1) (by simp only[opsX,hn])
   have h2:=qk4 (P:=P) (cmp:=cmp) (qhx (P:=P) (cmp:=cmp) (ext:=ext) (wa n m)) (lim:=lm) ops r s1 x hm
   refine⟨max n m,?_⟩
   simp only[opsX]at h1 ⊢
   split at h1
   ·rename_i s' hs';cases h1;first|exact h2|(simp only[hs'];exact h2)
   ·obtain⟨_,_,_,_,_,_,_,hx⟩:=qj1 h1
    cases hx
  ·obtain⟨o,v,f,ho,hw,hv,hp,rfl⟩:=qj1 e
   obtain⟨n,hn⟩:=qit hv
   exact⟨n,by simp only[opsX,qj2 ho hw hn,panD,ho,hw,hn,hp,if_true]⟩
theorem qiu:∀(cd:Code) (s:St) (x:AEx×St),qak P cmp (evC P cmp ext) lpC cd s=some x→∃n,qak P cmp (evN P cmp ext n) (qbb n) cd s=some x:=by
 have up:∀{n m:Nat} (h:n≤m) {cd:Code} {s:St} {x:AEx×St},qak P cmp (evN P cmp ext n) (qbb n) cd s=some x→qak P cmp (evN P cmp ext m) (qbb m) cd s=some x:=
  fun h _ _ _ e=>qdh (qhx h) (qeu h) _ _ _ e
 intro cd
 induction cd with
 |skip=>intro s x e;exact⟨0,e⟩
 |region id ops draw=>
  intro s x e
  cases draw with
  |false=>exact qj5 _ _ s x e
  |true=>
   simp only[qak]at e
   split at e
   ·rename_i hb
    obtain⟨n,hn⟩:=qos _ _ _ _ e
    exact⟨n,by simp only[qak];rw[if_pos hb];exact hn⟩
   ·cases e
 |seq c1 c2 ih1 ih2=>
  intro s x e
  simp only[qak]at e
  split at e
  ·rename_i s' h1
   obtain⟨n,hn⟩:=ih1 _ _ h1
   obtain⟨m,hm⟩:=ih2 _ _ e
   exact⟨max n m,by simp only[qak,up (wb n m) hn];exact up (wa n m) hm⟩
  ·rename_i hn'
   obtain⟨n,hn⟩:=ih1 _ _ e
   refine⟨n,?_⟩
   simp only[qak]
   obtain⟨ex,sx⟩:=x
   cases ex with
   |normal=>exact(hn' sx e).elim
   |exit id=>simp only[hn]
   |ret=>simp only[hn]
   |pan u=>simp only[hn]
 |cond cc t f ih1 ih2=>
  intro s x e
  simp only[qak]at e
  split at e
  ·rename_i hv;obtain⟨n,hn⟩:=ih1 _ _ e;exact⟨n,by simp only[qak,hv];exact hn⟩
  ·rename_i hv;obtain⟨n,hn⟩:=ih2 _ _ e;exact⟨n,by simp only[qak,hv];exact hn⟩
  ·cases e
 |block id b ih=>
  intro s x e
  simp only[qak]at e
  split at e
  ·rename_i j s' hb;obtain⟨n,hn⟩:=ih _ _ hb;exact⟨n,by simp only[qak,hn];exact e⟩
  ·rename_i hn'
   obtain⟨n,hn⟩:=ih _ _ e
   refine⟨n,?_⟩
   simp only[qak]
   obtain⟨ex,sx⟩:=x
   cases ex with
   |normal=>simp only[hn]
   |exit id=>exact(hn' id sx e).elim
   |ret=>simp only[hn]
   |pan u=>simp only[hn]
 |loop b ih=>
  intro s x e
  simp only[qak]at e
  obtain⟨k,hk⟩:=qhz _ _ _ e
  clear e
  have:∃n,∀m,n≤m→∃q,qbb q (qak P cmp (evN P cmp ext m) (qbb m) b) s=some x:=by
   induction hk with
   |stop he hx=>
    rename_i s x
    obtain⟨n,hn⟩:=ih _ _ he
    refine⟨n,fun m hm=>⟨1,?_⟩⟩
    have h1:=up hm hn
    unfold qbb
    obtain⟨ex,sx⟩:=x
    cases ex with
    |normal=>exact(hx sx rfl).elim
    |exit id=>simp only[h1]
    |ret=>simp only[h1]
    |pan u=>simp only[h1]
   |again he _ ih2=>
    rename_i k s s' x _
    obtain⟨n,hn⟩:=ih _ _ he
    obtain⟨n2,hn2⟩:=ih2
    refine⟨max n n2,fun m hm=> ?_⟩
    obtain⟨q,hq⟩:=hn2 m (by omega)
    exact⟨q+1,by unfold qbb;simp only[up (by omega:n≤m) hn];exact hq⟩
  obtain⟨n,hn⟩:=this
  obtain⟨q,hq⟩:=hn n (wd _)
  refine⟨max n q,?_⟩
  simp only[qak]
  exact qeu (wa n q) _ _ _ _ (fun s x h=>up (wb n q) h) hq
 |rangeFunc=>intro s x e;cases e
 |exit id=>intro s x e;exact⟨0,e⟩
 |scope=>intro s x e;cases e
 |label=>intro s x e;cases e
 |goto=>intro s x e;cases e
 |ret=>intro s x e;exact⟨0,e⟩
 |refuse=>intro s x e;cases e
theorem fnA_cont {f:FuncId} {a:List AVal} {h:qaa} {r:CR} (e:fnA P cmp (evC P cmp ext) lpC f a h=some r):∃n,fnA P cmp (evN P cmp ext n) (qbb n) f a h=some r:=by
 unfold fnA at e
 split at e
 ·cases e
 ·rename_i fn hfn
  split at e
  ·cases e
  ·rename_i cd hb
   split at e
   ·rename_i s hs;obtain⟨n,hn⟩:=qiu _ _ _ hs;exact⟨n,by unfold fnA;simp only[hfn,hb,hn];exact e⟩
   ·rename_i s hs;obtain⟨n,hn⟩:=qiu _ _ _ hs;exact⟨n,by unfold fnA;simp only[hfn,hb,hn];exact e⟩
   ·rename_i v s hs;obtain⟨n,hn⟩:=qiu _ _ _ hs;exact⟨n,by unfold fnA;simp only[hfn,hb,hn];exact e⟩
   ·cases e
theorem evC_eq {f:FuncId} (hx:ext f=none) (a:List AVal) (h:qaa):evC P cmp ext f a h=fnA P cmp (evC P cmp ext) lpC f a h:=by
 apply wc
 intro r
 constructor
 ·intro e
  obtain⟨n,hn⟩:=qdl e
  cases n with
  |zero=>cases hn
  |succ n=>
   unfold evN at hn
   simp only[hx]at hn
   exact qj3 (fun f a h r e=>qhy e) (fun f f' s x hf e=>qj4 (n:=n) (qeu (wd n) f f' s x hf e)) f a h r hn
 ·intro e
  obtain⟨n,hn⟩:=fnA_cont e
  exact qhy (n:=n+1) (by unfold evN;simp only[hx];exact hn)
theorem qfj {f:FuncId} {g:List AVal→qaa→Option CR} (hx:ext f=some g) (a:List AVal) (h:qaa):evC P cmp ext f a h=g a h:=by
 apply wc
 intro r
 constructor
 ·intro e
  obtain⟨n,hn⟩:=qdl e
  cases n with
  |zero=>cases hn
  |succ n=>unfold evN at hn;simp only[hx]at hn;exact hn
 ·intro e
  exact qhy (n:=1) (by unfold evN;simp only[hx];exact e)
theorem evC_ok [Tabs P] (hp:qfy P cmp) (hx:ExtOk P ext):qbd P (evC P cmp ext):=fun f args h r e=>by
 obtain⟨n,hn⟩:=qdl e
 exact(qnl hp hx n).1 f args h r hn
end cont
end Go.Ab
