/- The evaluator without a bound on rounds and calls. -/
import Derived.Test.YtlfollkhlephmaaGreatDoorAbCode5
set_option linter.unusedSimpArgs false
set_option linter.unusedVariables false
set_option maxRecDepth 100000
set_option maxHeartbeats 4000000
open Nat renaming le_max_right→wa,le_max_left→wb,le_refl→wc
open Option renaming ext→wd
namespace Go.Ab
variable {P:Program} {cmp:List TypeId}
def qbt (c c':Call):Prop:=∀f a h r,c f a h=some r→c' f a h=some r
def FunLe (f f':St→Option (AEx×St)):Prop:=∀s x,f s=some x→f' s=some x
def LpLe (l l':Lp):Prop:=∀f f' s x,FunLe f f'→l f s=some x→l' f' s=some x
theorem callA_le {c c':Call} (hc:qbt c c') {h:qaa} {g:FuncId} {args:List AVal} {r:CR} (e:qba c h g args=some r):qba c' h g args=some r:=by
 unfold qba at e ⊢
 simp only at e ⊢
 split at e
 ·rename_i hok
  rw[if_pos hok]
  split at e
  ·rename_i v f hr;simp only[hc _ _ _ _ hr];exact e
  ·rename_i v f hr;simp only[hc _ _ _ _ hr];exact e
  ·cases e
 ·cases e
theorem qik {c c':Call} (hc:qbt c c') {o:Oper} {ts:List AVal} {h:qaa} {r:OR} (e:opA P cmp c o ts h=some r):opA P cmp c' o ts h=some r:=by
 obtain⟨dst,op,type,pos,after,guard⟩:=o
 cases op with
 |call cl=>
  obtain⟨callee,args,ats⟩:=cl
  cases callee with
  |value f=>
   simp only[opA]at e ⊢
   split at e
   ·rename_i g first cap as hf has
    split at e
    ·rename_i r' hr'
     simp only[callA_le hc hr']
     exact e
    ·cases e
   ·cases e
  |builtin b=>cases b<;>exact e
  |invoke r m=>exact e
 |makeFunc fn a b=>cases fn<;>exact e
 |makeMap t q=>cases q<;>exact e
 |_=>exact e
theorem opH_le {c c':Call} (hc:qbt c c') {o:Oper} {ts:List AVal} {h:qaa} {r:OR} (e:orH P o ts h (opA P cmp c o ts h)=some r):orH P o ts h (opA P cmp c' o ts h)=some r:=by
 unfold orH at e ⊢
 split at e
 ·rename_i r' hr';rw[qik hc hr'];exact e
 ·rename_i hn;rw[←qm9 (call:=c) (cmp:=cmp) e,hn];exact e
theorem qgt {c c':Call} (hc:qbt c c') (ops:List Oper):∀(l:List Oper) (s:St) (x:AEx×St),opsA P cmp c ops l s=some x→opsA P cmp c' ops l s=some x
 |[],s,x,e=>e
 |o::r,s,x,e=>by
  unfold opsA at e ⊢
  split at e
  ·rename_i hw
   try simp only[hw]
   split at e
   ·rename_i v f hv;simp only[opH_le hc hv];exact qgt hc ops r _ x e
   ·rename_i v f hv;simp only[opH_le hc hv];exact e
   ·cases e
  ·exact qgt hc ops r _ x e
  ·cases e
theorem qil {c:Call} {ops:List Oper} {j:Nat} {s:St} {x:AEx×St} (e:panD P cmp c ops j s=some x):∃o v f,ops[j]? =some o∧qak ops o s.tmps=some true∧opA P cmp c o s.tmps s.heap=some (.pan v f)∧qe4 ops j=true∧x=(.pan v,⟨[],f.of s.heap,f.dirt++s.dirty⟩):=qni e
theorem qim {c:Call} {lim:Nat} {ops:List Oper} {j:Nat} {s:St} {o:Oper} {v:AVal} {f:Eff} (ho:ops[j]? =some o) (hw:qak ops o s.tmps=some true) (hv:opA P cmp c o s.tmps s.heap=some (.pan v f)):qat P cmp c lim ops j s=none:=by
 unfold qat
 simp only[ho,hw,hv]
theorem qjg {c c':Call} (hc:qbt c c') {lim:Nat} (ops:List Oper):∀(l:List Nat) (s:St) (x:AEx×St),opsX P cmp c lim ops l s=some x→opsX P cmp c' lim ops l s=some x
 |[],s,x,e=>e
 |j::r,s,x,e=>by
  simp only[opsX]at e ⊢
  split at e
  ·rename_i s1 hs
   have:qat P cmp c' lim ops j s=some s1:=by
    letI:Tabs P:=⟨fun _=>True⟩
    obtain⟨o,ho,hcase⟩:=qbe hs
    unfold qat
    simp only[ho]
    rcases hcase with⟨hw,v,f,hv,ha,rfl⟩|⟨hw,rfl⟩
    ·simp only[hw,qik hc hv,ha,if_true]
    ·simp only[hw]
   simp only[this]
   exact qjg hc ops r _ x e
  ·obtain⟨o,v,f,ho,hw,hv,hp,rfl⟩:=qil e
   have hv':=qik hc hv
   simp only[qim ho hw hv',panD,ho,hw,hv',hp,if_true]
theorem qc9 {c c':Call} (hc:qbt c c') {l l':Lp} (hl:LpLe l l'):∀(cd:Code) (s:St) (x:AEx×St),qag P cmp c l cd s=some x→qag P cmp c' l' cd s=some x:=by
 intro cd
 induction cd with
 |skip=>intro s x e;exact e
 |region id ops draw=>
  intro s x e
  cases draw with
  |false=>exact qgt hc _ _ s x e
  |true=>
   simp only[qag]at e ⊢
   split at e
   ·rename_i hb
    rw[if_pos hb]
    obtain⟨ex,s1,he1,rfl⟩:=qhi e
    rw[qjg hc _ _ _ _ he1];rfl
   ·cases e
 |seq c1 c2 ih1 ih2=>
  intro s x e
  simp only[qag]at e ⊢
  split at e
  ·rename_i s' h1;simp only[ih1 _ _ h1];exact ih2 _ _ e
  ·rename_i hn
   have h1:=ih1 _ _ e
   obtain⟨ex,sx⟩:=x
   cases ex with
   |normal=>exact(hn sx e).elim
   |exit id=>simp only[h1]
   |ret=>simp only[h1]
   |pan u=>simp only[h1]
 |cond cc t f ih1 ih2=>
  intro s x e
  simp only[qag]at e ⊢
  split at e
  ·exact ih1 _ _ e
  ·exact ih2 _ _ e
  ·cases e
 |block id b ih=>
  intro s x e
  simp only[qag]at e ⊢
  split at e
  ·rename_i j s' hb;simp only[ih _ _ hb];exact e
  ·rename_i hn
   have h1:=ih _ _ e
   obtain⟨ex,sx⟩:=x
   cases ex with
   |normal=>simp only[h1]
   |exit id=>exact(hn id sx e).elim
   |ret=>simp only[h1]
   |pan u=>simp only[h1]
 |loop b ih=>intro s x e;simp only[qag]at e ⊢;exact hl _ _ _ _ (fun s x h=>ih s x h) e
 |rangeFunc=>intro s x e;cases e
 |exit id=>intro s x e;exact e
 |scope=>intro s x e;cases e
 |label=>intro s x e;cases e
 |goto=>intro s x e;cases e
 |ret=>intro s x e;exact e
 |refuse=>intro s x e;cases e
theorem qin {c c':Call} (hc:qbt c c') {l l':Lp} (hl:LpLe l l'):qbt (fnA P cmp c l) (fnA P cmp c' l'):=by
 intro f args h r e
 unfold fnA at e ⊢
 split at e
 ·cases e
 ·rename_i fn hfn
  split at e
  ·cases e
  ·rename_i cd hb
   split at e
   ·rename_i s hs;simp only[qc9 hc hl _ _ _ hs];exact e
   ·rename_i s hs;simp only[qc9 hc hl _ _ _ hs];exact e
   ·rename_i v s hs;simp only[qc9 hc hl _ _ _ hs];exact e
   ·cases e
theorem qki:∀n,LpLe (qa8 n) (qa8 (n+1))
 |0,f,f',s,x,_,e=>by cases e
 |n+1,f,f',s,x,hf,e=>by
  unfold qa8 at e ⊢
  split at e
  ·rename_i s' hs;simp only[hf _ _ hs];exact qki n f f' s' x hf e
  ·rename_i hn
   have h1:=hf _ _ e
   obtain⟨ex,sx⟩:=x
   cases ex with
   |normal=>exact(hn sx e).elim
   |exit id=>simp only[h1]
   |ret=>simp only[h1]
   |pan u=>simp only[h1]
theorem qeb {n m:Nat} (h:n≤m):LpLe (qa8 n) (qa8 m):=by
 induction h with
 |refl=>
  intro f f' s x hf e
  induction n generalizing s with
  |zero=>cases e
  |succ n ih=>
   unfold qa8 at e ⊢
   split at e
   ·rename_i s' hs;simp only[hf _ _ hs];exact ih s' e
   ·rename_i hn
    have h1:=hf _ _ e
    obtain⟨ex,sx⟩:=x
    cases ex with
    |normal=>exact(hn sx e).elim
    |exit id=>simp only[h1]
    |ret=>simp only[h1]
    |pan u=>simp only[h1]
 |step _ ih=>intro f f' s x hf e;exact qki _ f' f' s x (fun _ _ h=>h) (ih f f' s x hf e)
theorem evN_le1 {ext:Ext}:∀n,qbt (evN P cmp ext n) (evN P cmp ext (n+1))
 |0,f,a,h,r,e=>by cases e
 |n+1,f,a,h,r,e=>by
  unfold evN at e ⊢
  split at e
  ·exact e
  ·exact qin (evN_le1 n) (qki n) f a h r e
theorem qgu {ext:Ext} {n m:Nat} (h:n≤m):qbt (evN P cmp ext n) (evN P cmp ext m):=by
 induction h with
 |refl=>exact fun f a h r e=>e
 |step _ ih=>exact fun f a h r e=>evN_le1 _ f a h r (ih f a h r e)
noncomputable def lim {α:Type} (g:Nat→Option α):Option α:=open Classical in if h:∃r,∃n,g n=some r then some h.choose else none
theorem qem {α:Type} {g:Nat→Option α} {r:α} (h:lim g=some r):∃n,g n=some r:=by
 unfold lim at h
 split at h
 ·rename_i hx;cases h;exact hx.choose_spec
 ·cases h
theorem qnm {α:Type} {g:Nat→Option α} (hm:∀n m r,n≤m→g n=some r→g m=some r) {n:Nat} {r:α} (h:g n=some r):lim g=some r:=by
 unfold lim
 have hx:∃r,∃n,g n=some r:=⟨r,n,h⟩
 rw[dif_pos hx]
 obtain⟨m,hm'⟩:=hx.choose_spec
 have h1:=hm n (max n m) r (wb _ _) h
 have h2:=hm m (max n m) _ (wa _ _) hm'
 rw[h1]at h2
 rw[Option.some.inj h2]
noncomputable def lpC:Lp:=fun f s=>lim fun n=>qa8 n f s
noncomputable def evC (P:Program) (cmp:List TypeId) (ext:Ext):Call:=fun f a h=>lim fun n=>evN P cmp ext n f a h
theorem lpC_of {f:St→Option (AEx×St)} {s:St} {x:AEx×St} {n:Nat} (h:qa8 n f s=some x):lpC f s=some x:=
 qnm (fun _ _ _ hnm e=>qeb hnm f f _ _ (fun _ _ h=>h) e) h
theorem qgv {ext:Ext} {n:Nat} {f:FuncId} {a:List AVal} {h:qaa} {r:CR} (e:evN P cmp ext n f a h=some r):evC P cmp ext f a h=some r:=
 qnm (fun _ _ _ hnm e=>qgu hnm _ _ _ _ e) e
theorem lpC_ok:LpOk lpC:=fun f s x h=>by obtain⟨n,hn⟩:=qem h;exact qez n f s x hn
section cont
variable {ext:Ext}
theorem qpt {h:qaa} {g:FuncId} {args:List AVal} {r:CR} (e:qba (evC P cmp ext) h g args=some r):∃n,qba (evN P cmp ext n) h g args=some r:=by
 unfold qba at e
 simp only at e
 split at e
 ·rename_i hok
  split at e
  ·rename_i v f hr
   obtain⟨n,hn⟩:=qem hr
   exact⟨n,by unfold qba;simp only[hok,if_true,hn];exact e⟩
  ·rename_i v f hr
   obtain⟨n,hn⟩:=qem hr
   exact⟨n,by unfold qba;simp only[hok,if_true,hn];exact e⟩
  ·cases e
 ·cases e
theorem qkj {o:Oper} {ts:List AVal} {h:qaa} {r:OR} (e:opA P cmp (evC P cmp ext) o ts h=some r):∃n,opA P cmp (evN P cmp ext n) o ts h=some r:=by
 obtain⟨dst,op,type,pos,after,guard⟩:=o
 cases op with
 |call cl=>
  obtain⟨callee,args,ats⟩:=cl
  cases callee with
  |value f=>
   simp only[opA]at e ⊢
   split at e
   ·rename_i g first cap as hf has
    split at e
    ·rename_i r' hr'
     obtain⟨n,hn⟩:=qpt hr'
     exact⟨n,by simp only[hn];exact e⟩
    ·cases e
   ·cases e
  |builtin b=>exact⟨0,by cases b<;>exact e⟩
  |invoke r m=>exact⟨0,e⟩
 |makeFunc fn a b=>exact⟨0,by cases fn<;>exact e⟩
 |makeMap t q=>exact⟨0,by cases q<;>exact e⟩
 |_=>exact⟨0,e⟩
theorem qnn {o:Oper} {ts:List AVal} {h:qaa} {r:OR} (e:orH P o ts h (opA P cmp (evC P cmp ext) o ts h)=some r):∃n,orH P o ts h (opA P cmp (evN P cmp ext n) o ts h)=some r:=by
 unfold orH at e ⊢
 split at e
 ·rename_i r' hr'
  obtain⟨n,hn⟩:=qkj hr'
  exact⟨n,by rw[hn];exact e⟩
 ·rename_i hn
  exact⟨0,by rw[←qm9 (call:=evC P cmp ext) (cmp:=cmp) e,hn];exact e⟩
theorem qio (ops:List Oper):∀(l:List Oper) (s:St) (x:AEx×St),opsA P cmp (evC P cmp ext) ops l s=some x→∃n,opsA P cmp (evN P cmp ext n) ops l s=some x
 |[],s,x,e=>⟨0,e⟩
 |o::r,s,x,e=>by
  unfold opsA at e
  split at e
  ·rename_i hw
   split at e
   ·rename_i v f hv
    obtain⟨n,hn⟩:=qnn hv
    obtain⟨m,hm⟩:=qio ops r _ x e
    refine⟨max n m,?_⟩
    unfold opsA
    simp only[hw,opH_le (qgu (wb n m)) hn]
    exact qgt (qgu (wa n m)) ops r _ x hm
   ·rename_i v f hv
    obtain⟨n,hn⟩:=qnn hv
    exact⟨n,by unfold opsA;simp only[hw,hn];exact e⟩
   ·cases e
  ·rename_i hw
   obtain⟨m,hm⟩:=qio ops r _ x e
   exact⟨m,by unfold opsA;simp only[hw];exact hm⟩
  ·cases e
theorem qmf {lm:Nat} (ops:List Oper):∀(l:List Nat) (s:St) (x:AEx×St),opsX P cmp (evC P cmp ext) lm ops l s=some x→∃n,opsX P cmp (evN P cmp ext n) lm ops l s=some x
 |[],s,x,e=>⟨0,e⟩
 |j::r,s,x,e=>by
  simp only[opsX]at e
  split at e
  ·rename_i s1 hs
   have:∃n,qat P cmp (evN P cmp ext n) lm ops j s=some s1:=by
    letI:Tabs P:=⟨fun _=>True⟩
    obtain⟨o,ho,hcase⟩:=qbe hs
    rcases hcase with⟨hw,v,f,hv,ha,rfl⟩|⟨hw,rfl⟩
    ·obtain⟨n,hn⟩:=qkj hv
     exact⟨n,by unfold qat;simp only[ho,hw,hn,ha,if_true]⟩
    ·exact⟨0,by unfold qat;simp only[ho,hw]⟩
   obtain⟨n,hn⟩:=this
   obtain⟨m,hm⟩:=qmf ops r _ x e
   have h1:=qjg (P:=P) (cmp:=cmp) (qgu (P:=P) (cmp:=cmp) (ext:=ext) (wb n m)) (lim:=lm) ops [j] s (.normal,s1) (by simp only[opsX,hn])
   have h2:=qjg (P:=P) (cmp:=cmp) (qgu (P:=P) (cmp:=cmp) (ext:=ext) (wa n m)) (lim:=lm) ops r s1 x hm
   refine⟨max n m,?_⟩
   simp only[opsX]at h1 ⊢
   split at h1
   ·rename_i s' hs';cases h1;first|exact h2|(simp only[hs'];exact h2)
   ·obtain⟨_,_,_,_,_,_,_,hx⟩:=qil h1
    cases hx
  ·obtain⟨o,v,f,ho,hw,hv,hp,rfl⟩:=qil e
   obtain⟨n,hn⟩:=qkj hv
   exact⟨n,by simp only[opsX,qim ho hw hn,panD,ho,hw,hn,hp,if_true]⟩
theorem qhk:∀(cd:Code) (s:St) (x:AEx×St),qag P cmp (evC P cmp ext) lpC cd s=some x→∃n,qag P cmp (evN P cmp ext n) (qa8 n) cd s=some x:=by
 have up:∀{n m:Nat} (h:n≤m) {cd:Code} {s:St} {x:AEx×St},qag P cmp (evN P cmp ext n) (qa8 n) cd s=some x→qag P cmp (evN P cmp ext m) (qa8 m) cd s=some x:=
  fun h _ _ _ e=>qc9 (qgu h) (qeb h) _ _ _ e
 intro cd
 induction cd with
 |skip=>intro s x e;exact⟨0,e⟩
 |region id ops draw=>
  intro s x e
  cases draw with
  |false=>exact qio _ _ s x e
  |true=>
   simp only[qag]at e
   split at e
   ·rename_i hb
    obtain⟨ex,s1,he1,rfl⟩:=qhi e
    obtain⟨n,hn⟩:=qmf _ _ _ _ he1
    exact⟨n,by simp only[qag];rw[if_pos hb,hn];rfl⟩
   ·cases e
 |seq c1 c2 ih1 ih2=>
  intro s x e
  simp only[qag]at e
  split at e
  ·rename_i s' h1
   obtain⟨n,hn⟩:=ih1 _ _ h1
   obtain⟨m,hm⟩:=ih2 _ _ e
   exact⟨max n m,by simp only[qag,up (wb n m) hn];exact up (wa n m) hm⟩
  ·rename_i hn'
   obtain⟨n,hn⟩:=ih1 _ _ e
   refine⟨n,?_⟩
   simp only[qag]
   obtain⟨ex,sx⟩:=x
   cases ex with
   |normal=>exact(hn' sx e).elim
   |exit id=>simp only[hn]
   |ret=>simp only[hn]
   |pan u=>simp only[hn]
 |cond cc t f ih1 ih2=>
  intro s x e
  simp only[qag]at e
  split at e
  ·rename_i hv;obtain⟨n,hn⟩:=ih1 _ _ e;exact⟨n,by simp only[qag,hv];exact hn⟩
  ·rename_i hv;obtain⟨n,hn⟩:=ih2 _ _ e;exact⟨n,by simp only[qag,hv];exact hn⟩
  ·cases e
 |block id b ih=>
  intro s x e
  simp only[qag]at e
  split at e
  ·rename_i j s' hb;obtain⟨n,hn⟩:=ih _ _ hb;exact⟨n,by simp only[qag,hn];exact e⟩
  ·rename_i hn'
   obtain⟨n,hn⟩:=ih _ _ e
   refine⟨n,?_⟩
   simp only[qag]
   obtain⟨ex,sx⟩:=x
   cases ex with
   |normal=>simp only[hn]
   |exit id=>exact(hn' id sx e).elim
   |ret=>simp only[hn]
   |pan u=>simp only[hn]
 |loop b ih=>
  intro s x e
  simp only[qag]at e
  obtain⟨k,hk⟩:=lpC_ok _ _ _ e
  clear e
  have:∃n,∀m,n≤m→∃q,qa8 q (qag P cmp (evN P cmp ext m) (qa8 m) b) s=some x:=by
   induction hk with
   |stop he hx=>
    rename_i s x
    obtain⟨n,hn⟩:=ih _ _ he
    refine⟨n,fun m hm=>⟨1,?_⟩⟩
    have h1:=up hm hn
    unfold qa8
    obtain⟨ex,sx⟩:=x
    cases ex with
    |normal=>exact(hx sx rfl).elim
    |exit id=>simp only[h1]
    |ret=>simp only[h1]
    |pan u=>simp only[h1]
   |again he _ ih2=>
    rename_i k s s' x _
    obtain⟨n,hn⟩:=ih _ _ he
    obtain⟨n2,hn2⟩:=ih2
    refine⟨max n n2,fun m hm=> ?_⟩
    obtain⟨q,hq⟩:=hn2 m (by omega)
    exact⟨q+1,by unfold qa8;simp only[up (by omega:n≤m) hn];exact hq⟩
  obtain⟨n,hn⟩:=this
  obtain⟨q,hq⟩:=hn n (wc _)
  refine⟨max n q,?_⟩
  simp only[qag]
  exact qeb (wa n q) _ _ _ _ (fun s x h=>up (wb n q) h) hq
 |rangeFunc=>intro s x e;cases e
 |exit id=>intro s x e;exact⟨0,e⟩
 |scope=>intro s x e;cases e
 |label=>intro s x e;cases e
 |goto=>intro s x e;cases e
 |ret=>intro s x e;exact⟨0,e⟩
 |refuse=>intro s x e;cases e
theorem fnA_cont {f:FuncId} {a:List AVal} {h:qaa} {r:CR} (e:fnA P cmp (evC P cmp ext) lpC f a h=some r):∃n,fnA P cmp (evN P cmp ext n) (qa8 n) f a h=some r:=by
 unfold fnA at e
 split at e
 ·cases e
 ·rename_i fn hfn
  split at e
  ·cases e
  ·rename_i cd hb
   split at e
   ·rename_i s hs;obtain⟨n,hn⟩:=qhk _ _ _ hs;exact⟨n,by unfold fnA;simp only[hfn,hb,hn];exact e⟩
   ·rename_i s hs;obtain⟨n,hn⟩:=qhk _ _ _ hs;exact⟨n,by unfold fnA;simp only[hfn,hb,hn];exact e⟩
   ·rename_i v s hs;obtain⟨n,hn⟩:=qhk _ _ _ hs;exact⟨n,by unfold fnA;simp only[hfn,hb,hn];exact e⟩
   ·cases e
theorem evC_eq {f:FuncId} (hx:ext f=none) (a:List AVal) (h:qaa):evC P cmp ext f a h=fnA P cmp (evC P cmp ext) lpC f a h:=by
 apply wd
 intro r
 constructor
 ·intro e
  obtain⟨n,hn⟩:=qem e
  cases n with
  |zero=>cases hn
  |succ n=>
   unfold evN at hn
   simp only[hx]at hn
   exact qin (fun f a h r e=>qgv e) (fun f f' s x hf e=>lpC_of (n:=n) (qeb (wc n) f f' s x hf e)) f a h r hn
 ·intro e
  obtain⟨n,hn⟩:=fnA_cont e
  exact qgv (n:=n+1) (by unfold evN;simp only[hx];exact hn)
theorem qjh {f:FuncId} {g:List AVal→qaa→Option CR} (hx:ext f=some g) (a:List AVal) (h:qaa):evC P cmp ext f a h=g a h:=by
 apply wd
 intro r
 constructor
 ·intro e
  obtain⟨n,hn⟩:=qem e
  cases n with
  |zero=>cases hn
  |succ n=>unfold evN at hn;simp only[hx]at hn;exact hn
 ·intro e
  exact qgv (n:=1) (by unfold evN;simp only[hx];exact e)
theorem evC_ok [Tabs P] (hp:qel P cmp) (hx:qjf P ext):qay P (evC P cmp ext):=fun f args h r e=>by
 obtain⟨n,hn⟩:=qem e
 exact(qli hp hx n).1 f args h r hn
end cont
end Go.Ab
