/- Soundness of the single operations: all of them. -/
import Derived.Test.YtlfollkhlephmaaGreatDoorAbOpN
import Derived.LaidEql
set_option linter.unusedSimpArgs false
set_option linter.unusedVariables false
set_option maxRecDepth 100000
set_option maxHeartbeats 4000000
open Bool renaming and_eq_true→wa
open Option renaming map_eq_some_iff→wb
open Array renaming ext'→wc
namespace Go.Ab
variable {P:Program} {S:Sh} {h:qaa} {w:World}
section
variable {o:Oper} {a:Act} {next:Act→World→Prop} {Q:Exit→Act→World→Prop}
theorem qc6 {v:Value} {w':World} (hr:(execOp a.eval o).run P w= .ok (.value v) w') (hn:next (a.put o.dst v) w'):o.wp P a w next Q:=by
 unfold Oper.wp;rw[hr];exact hn
theorem qkc {w':World} (hr:(execOp a.eval o).run P w= .ok .skip w') (hn:next (a.put o.dst undef) w'):o.wp P a w next Q:=by
 unfold Oper.wp;rw[hr];exact hn
end
def After (P:Program) [Tabs P] (S:Sh) (h:qaa) (w:World) (o:Oper) (a:Act) (next:Act→World→Prop) (Q:Exit→Act→World→Prop):OR→Prop
 | .val u f=>∀v S' w',Step P S w S' (f.of h) w'→VR S' u v→next (a.put o.dst v) w'
 | .pan u f=>∀v S' w',Step P S w S' (f.of h) w'→VR S' u v→Q (.panic [{ v,recovered:=false }]) a w'
theorem len_sound {t:TypeId} {x:AVal} {vx:Value} {n:Nat} (hx:VR S x vx) (ty:TypeId) (ats:Array TypeId) (hat:ats[0]? =some t):
 ((∃s,x= .str s∧P.underlying t=some .string∧n=s.length)∨(∃es tk e,x= .slice es tk∧P.underlying t=some (.slice e)∧n=es.length)∨(∃es b q e,x= .ms es b q n∧P.underlying t=some (.slice e)))→
 (Builtin.len_ ats ty #[vx]).run P w= .ok (.int .i64 n) w:=by
 rintro(⟨s,rfl,hu,rfl⟩|⟨es,tk,e,rfl,hu,rfl⟩|⟨es,b,q,e,rfl,hu⟩)
 ·cases hx with
  |str bs _ hb=>
   have:=qfj hb
   simp[Builtin.len_,hat,run_underlying hu,goInt,this]
 ·cases hx with
  |slice _ _ ad m cap _ _ hn=>simp[Builtin.len_,hat,run_underlying hu,goInt,hn]
  |snil=>simp[Builtin.len_,hat,run_underlying hu,goInt]
 ·cases hx with
  |ms=>simp[Builtin.len_,hat,run_underlying hu,goInt]
theorem VR.toZero {es:List (List AVal)} {v:Value} (h:VR S (.slice es .full) v) (b:Bool):VR S (.slice es (if !es.isEmpty && b then .zero else .full)) v:=by
 split
 ·rename_i hb
  cases h with
  |slice _ _ ad m cap esz vs hn hc hcm hsp hsz h1 hp h2 ht=>exact .slice es .zero ad m cap esz vs hn hc hcm hsp hsz h1 hp h2 trivial
  |snil=>simp at hb
 ·exact h
theorem qh4 {f:FuncId} {fn:Func} (hfn:P.funcs[f]? =some fn) (hb:fn.body.isNone=false) (hname:(fn.name== "runtime.NumGoroutine")=false) (args:Array Value):
 (callFunc f args).run P w= .ok (.enter f args) w:=by
 simp only[callFunc,Sem.run_bind,run_program,Result.andThen_ok,hfn,hname,hb,Bool.false_eq_true,if_false,Sem.run_pure]
theorem qd7 [Tabs P] {cmp:List TypeId} (hcmp:∀t∈cmp,qca P t=true) {call:Call} (hcall:qay P call) (hkeep:qaj call) {o:Oper} {a:Act} {ts:List AVal} {r:OR}
 {next:Act→World→Prop} {Q:Exit→Act→World→Prop} (k:WR P S h w) (ht:VRl S ts a.tmps.toList) (e:opA P cmp call o ts h=some r)
 (hn:After P S h w o a next Q r):o.wp P a w next Q:=by
 have val:∀{u:AVal} {v:Value},(some (OR.val u .same)=some r)→(execOp a.eval o).run P w= .ok (.value v) w→VR S u v→o.wp P a w next Q:=by
  intro u v e hr hv
  cases e
  exact qc6 hr (hn v S w (.refl k) hv)
 obtain⟨dst,op,type,pos,after,guard⟩:=o
 cases op with
 |move x=>
  simp only[opA]at e
  split at e
  ·rename_i u hu
   exact val e rfl (qac ht hu)
  ·cases e
 |assign x=>
  simp only[opA]at e
  split at e
  ·rename_i u hu
   exact val e rfl (qac ht hu)
  ·cases e
 |pick c x y=>
  simp only[opA]at e
  split at e
  ·rename_i hc
   have hcv:=qac ht hc
   split at e
   ·rename_i u hu
    refine val e ?_ (qac ht hu)
    generalize hve:a.eval c=vc at hcv
    cases hcv
    simp[execOp,hve,asBool]
   ·cases e
  ·rename_i hc
   have hcv:=qac ht hc
   split at e
   ·rename_i u hu
    refine val e ?_ (qac ht hu)
    generalize hve:a.eval c=vc at hcv
    cases hcv
    simp[execOp,hve,asBool]
   ·cases e
  ·cases e
 |alloc t=>
  simp only[opA]at e
  split at e
  ·rename_i z hz
   cases e
   obtain⟨v,hv,hr⟩:=qdm hz w S
   obtain⟨h1,h2⟩:=newBox k (C:=v.cells) (T:=t) hr.cells
   exact qc6 (by simp[execOp,Instr.alloc,hv,newVar,newRow]) (hn _ _ _ h1 h2)
  ·cases e
 |box t x=>
  simp only[opA]at e
  split at e
  ·rename_i u hu
   cases e
   obtain⟨h1,h2⟩:=newBox k (C:=(a.eval x).cells) (T:=t) (qac ht hu).cells
   exact qc6 (by simp[execOp,Instr.box,newVar,newRow]) (hn _ _ _ h1 h2)
  ·cases e
 |build t ps=>
  simp only[opA]at e
  split at e
  ·rename_i z fs us hz hu hp
   split at e
   ·rename_i hall
    split at e
    ·rename_i u hm
     rw[wb]at hm
     obtain⟨r',hr',rfl⟩:=hm
     obtain⟨v,hv,hvr⟩:=qm7 (w:=w) ht hz hu hp hall hr'
     exact val e (by simp only[execOp,Sem.run_bind,hv,Result.andThen_ok,Sem.run_pure]) hvr
    ·cases e
   ·cases e
  ·rename_i z n el us hz hu hp
   split at e
   ·rename_i u hm
    split at hm
    ·rename_i s hs
     rw[wb]at hm
     obtain⟨r',hr',rfl⟩:=hm
     obtain⟨v,hv,hvr⟩:=qof (w:=w) ht hz hu hp hs hr'
     exact val e (by simp only[execOp,Sem.run_bind,hv,Result.andThen_ok,Sem.run_pure]) hvr
    ·cases hm
   ·cases e
  ·cases e
 |buildSlice t n ps=>
  simp only[opA]at e
  split at e
  ·rename_i el hel
   have hu:P.underlying t=some (.slice el):=by
    unfold qc2 at hel
    split at hel
    ·rename_i e' he;cases hel;exact he
    ·cases hel
   split at e
   ·rename_i s z us hs hz hp
    split at e
    ·rename_i hc
     simp only[wa,decide_eq_true_eq,beq_iff_eq]at hc
     split at e
     ·rename_i cs hcs
      split at e
      ·rename_i es hes
       cases e
       obtain⟨v,w',S',h1,h2,h3⟩:=qj9 k ht hu hs hz hp hc.1 hc.2 hcs hes
       exact qc6 (by simp only[execOp,Sem.run_bind,h1,Result.andThen_ok,Sem.run_pure]) (hn _ _ _ h2 (h3.toZero _))
      ·cases e
     ·cases e
    ·cases e
   ·cases e
  ·cases e
 |load t x=>
  simp only[opA]at e
  split at e
  ·rename_i p hp
   split at e
   ·rename_i u hu
    obtain⟨v,hv,hvr⟩:=qjt k (qac ht hp) hu
    exact val e (by simp only[execOp,Sem.run_bind,hv,Result.andThen_ok,Sem.run_pure]) hvr
   ·cases e
  ·cases e
 |store t x y=>
  simp only[opA]at e
  split at e
  ·rename_i p u hp hu
   split at e
   ·rename_i h' b hs
    cases e
    obtain⟨w',h1,h2⟩:=qm8 k (qac ht hp) (qac ht hu) hs
    exact qkc (by simp only[execOp,Sem.run_bind,h1,Result.andThen_ok,Sem.run_pure]) (hn _ _ _ h2 .undef)
   ·cases e
  ·cases e
 |nilCheck x=>
  simp only[opA]at e
  split at e
  ·rename_i b o hx
   have hv:=qac ht hx
   generalize hve:a.eval x=vx at hv
   cases hv with
   |ptr _ _ r hr=>exact val e (by simp[execOp,hve]) (.ptr _ _ r hr)
  ·rename_i cs o hx
   have hv:=qac ht hx
   generalize hve:a.eval x=vx at hv
   cases hv with
   |eptr _ _ r o0 vs h1 hp h2=>exact val e (by simp[execOp,hve]) (.eptr _ _ r o0 vs h1 hp h2)
  ·rename_i b o n hx
   have hv:=qac ht hx
   generalize hve:a.eval x=vx at hv
   cases hv with
   |mptr _ _ _ r o' h=>exact val e (by simp[execOp,hve]) (.mptr _ _ _ r o' h)
  ·rename_i f p q hx
   have hv:=qac ht hx
   obtain⟨x1,y1,hve,h1,h2⟩:=hv.inv_func
   refine val e (by simp[execOp,hve];rfl) ?_
   rw[hve]at hv;exact hv
  ·cases e
 |binOp op t x y t2=>
  simp only[opA]at e
  split at e
  ·rename_i u1 u2 h1 h2
   split at e
   ·rename_i u hu
    obtain⟨v,hv,hvr⟩:=qpj (w:=w) hcmp (x:=x) (y:=y) (qac ht h1) (qac ht h2) hu
    refine val e ?_ hvr
    simp only[execOp]
    rw[Sem.run_bind,hv]
    rfl
   ·cases e
  ·cases e
 |unOp op t x=>
  simp only[opA]at e
  split at e
  ·rename_i u1 h1
   split at e
   ·rename_i u hu
    obtain⟨v,hv,hvr⟩:=unA_sound (P:=P) (w:=w) (qac ht h1) hu
    exact val e (by simp only[execOp,Sem.run_bind,hv,Result.andThen_ok,Sem.run_pure]) hvr
   ·cases e
  ·cases e
 |convert s d x=>
  simp only[opA]at e
  split at e
  ·rename_i u1 h1
   split at e
   ·rename_i u hu
    obtain⟨v,hv,hvr⟩:=qoc (P:=P) (w:=w) (qac ht h1) hu
    exact val e (by simp only[execOp,Sem.run_bind,hv,Result.andThen_ok,Sem.run_pure]) hvr
   ·cases e
  ·cases e
 |makeInterface t x=>
  simp only[opA]at e
  split at e
  ·cases e
  ·rename_i u d hni hu hd
   refine val e ?_ (.iface t _ _ (qac ht hu))
   have:(Instr.makeInterface t (a.eval x)).run P w= .ok (.iface t (a.eval x)) w:=by
    simp only[Instr.makeInterface,Sem.run_bind,run_underlying hd,Result.andThen_ok]
    rfl
   simp only[execOp,Sem.run_bind,this,Result.andThen_ok,Sem.run_pure]
  ·cases e
 |makeFunc fn first cap=>
  cases fn with
  |func f=>
   simp only[opA]at e
   split at e
   ·rename_i u1 u2 h1 h2
    have g1:=qde ht h1
    have g2:=qde ht h2
    have:=VR.func' (f:=f) g1 g2
    refine val e (v:= .func (.func f) (first.map a.eval) (cap.map a.eval)) (by simp[execOp,Instr.makeFunc]) ?_
    have e1:(first.toList.map a.eval).toArray=first.map a.eval:=by apply wc;simp
    have e2:(cap.toList.map a.eval).toArray=cap.map a.eval:=by apply wc;simp
    rw[←e1,←e2];exact this
   ·cases e
  |method=>simp[opA]at e
  |methodOf=>simp[opA]at e
  |via=>simp[opA]at e
  |yield=>simp[opA]at e
 |slice t x lo hi mx=>
  simp only[opA]at e
  split at e
  ·rename_i u1 l1 h1 m1 hx hlo hhi hmx
   split at e
   ·rename_i u hu
    obtain⟨v,hv,hvr⟩:=qm4 (P:=P) (w:=w) (qac ht hx) (qg5 ht hlo) (qg5 ht hhi) (qg5 ht hmx) hu
    exact val e (by simp only[execOp,Sem.run_bind,hv,Result.andThen_ok,Sem.run_pure]) hvr
   ·cases e
  ·cases e
 |fieldAddr s x f=>
  simp only[opA]at e
  split at e
  ·rename_i off ft b o hf hx
   have hv:=qac ht hx
   generalize hve:a.eval x=vx at hv
   cases hv with
   |ptr _ _ r hr=>
    exact val e (by simp only[execOp,hve,Sem.run_bind,qff hf,Result.andThen_ok,Sem.run_pure]) (.ptr _ _ r hr)
  ·rename_i off ft cs o hf hx
   have hv:=qac ht hx
   generalize hve:a.eval x=vx at hv
   cases hv with
   |eptr _ _ r o0 vs h1 hp h2=>
    refine val e (v:= .pointer (some ⟨r,o0+(o+off),none⟩)) ?_ (.eptr _ _ r o0 vs h1 hp h2)
    simp only[execOp,hve,Sem.run_bind,qff hf,Result.andThen_ok,Sem.run_pure,Nat.add_assoc]
  ·rename_i off ft b o n hf hx
   have hv:=qac ht hx
   generalize hve:a.eval x=vx at hv
   cases hv with
   |mptr _ _ _ r o' h=>
    refine val e (v:= .pointer (some ⟨r,o'+off,none⟩)) ?_ (.mptr _ _ _ r (o'+off) ?_)
    ·simp only[execOp,hve,Sem.run_bind,qff hf,Result.andThen_ok,Sem.run_pure]
    ·obtain⟨r0,c,l,g1,g2,g3⟩:=h
     refine⟨r0,c,l,g1,g2,fun e=> ?_⟩
     have:=g3 e
     simp only[Addr.mk.injEq,and_true]at this ⊢
     exact⟨this.1,by rw[this.2]⟩
  ·cases e
 |field t x f=>
  simp only[opA]at e
  split at e
  ·rename_i off ft cs hf hx
   split at e
   ·rename_i u hu
    obtain⟨y,hve,hy⟩:=(qac ht hx).inv_agg
    obtain⟨v,hv,hvr⟩:=qod (P:=P) (w:=w) hf hy hu
    exact val e (by simp only[execOp,hve,Sem.run_bind,hv,Result.andThen_ok,Sem.run_pure]) hvr
   ·cases e
  ·cases e
 |indexAddr t x i=>
  simp only[opA]at e
  split at e
  ·rename_i el es tk kd n hu hx hi
   split at e
   ·rename_i cs s hc hs
    split at e
    ·rename_i hb
     simp only[wa,decide_eq_true_eq,beq_iff_eq]at hb
     have hiv:=qac ht hi
     generalize hie:a.eval i=vi at hiv
     cases hiv
     obtain⟨v,hv,hvr⟩:=qkw (P:=P) (w:=w) (k:=kd) hu (qac ht hx) hc (hb.2▸hs) hb.1
     exact val e (by simp only[execOp,hie,Sem.run_bind,hv,Result.andThen_ok,Sem.run_pure]) hvr
    ·cases e
   ·cases e
  ·rename_i el es b q m kd n hu hx hi
   split at e
   ·rename_i s hs
    split at e
    ·rename_i hb
     simp only[wa,decide_eq_true_eq]at hb
     have hiv:=qac ht hi
     generalize hie:a.eval i=vi at hiv
     cases hiv
     obtain⟨g1,v,hv,hvr⟩:=qm5 (P:=P) (w:=w) (k:=kd) hu (qac ht hx) hs hb.1 hb.2
     split at e
     ·rename_i cs hcs
      split at e
      ·rename_i hl
       obtain⟨v,hv,hvr⟩:=g1 cs hcs (by simpa using hl)
       exact val e (by simp only[execOp,hie,Sem.run_bind,hv,Result.andThen_ok,Sem.run_pure]) hvr
      ·cases e
     ·exact val e (by simp only[execOp,hie,Sem.run_bind,hv,Result.andThen_ok,Sem.run_pure]) hvr
    ·cases e
   ·cases e
  ·rename_i len el b o kd n hu hx hi
   split at e
   ·rename_i s hs
    split at e
    ·rename_i hb
     simp only[wa,decide_eq_true_eq]at hb
     have hiv:=qac ht hi
     generalize hie:a.eval i=vi at hiv
     cases hiv
     have hv:=qac ht hx
     generalize hve:a.eval x=vx at hv
     cases hv with
     |ptr _ _ r hr=>
      exact val e (by simp only[execOp,hve,hie,Sem.run_bind,qkx hu hs hb.1 hb.2,Result.andThen_ok,Sem.run_pure]) (.ptr _ _ r hr)
    ·cases e
   ·cases e
  ·cases e
 |index t x i=>
  simp only[opA]at e
  split at e
  ·rename_i s kd n hu hx hi
   split at e
   ·rename_i b hb
    split at e
    ·rename_i h0
     have hiv:=qac ht hi
     generalize hie:a.eval i=vi at hiv
     cases hiv
     exact val e (by simp only[execOp,hie,Sem.run_bind,qm6 hu (qac ht hx) hb h0,Result.andThen_ok,Sem.run_pure]) (.int _ _)
    ·cases e
   ·cases e
  ·rename_i len el cs kd n hu hx hi
   split at e
   ·rename_i s hs
    split at e
    ·rename_i hb
     simp only[wa,decide_eq_true_eq]at hb
     split at e
     ·rename_i u hu'
      have hiv:=qac ht hi
      generalize hie:a.eval i=vi at hiv
      cases hiv
      obtain⟨y,hve,hy⟩:=(qac ht hx).inv_agg
      obtain⟨v,hv,hvr⟩:=qoe (P:=P) (w:=w) (k:=kd) hu hs hy hb.1 hb.2 hu'
      exact val e (by simp only[execOp,hve,hie,Sem.run_bind,hv,Result.andThen_ok,Sem.run_pure]) hvr
     ·cases e
    ·cases e
   ·cases e
  ·cases e
 |typeAssert x xt t ok=>
  simp only[opA]at e
  split at e
  ·cases e
  ·rename_i t' u d z hni hx hd hz
   have hv:=qac ht hx
   generalize hve:a.eval x=vx at hv
   obtain⟨vz,hvz,hrz⟩:=qdm hz w S
   cases hv with
   |iface _ _ v hvr=>
   split at e
   ·rename_i htt
    subst htt
    have hrun:(Instr.typeAssert (.iface t v) xt t ok).run P w= .ok (if ok then .tuple #[v,.bool true]else v) w:=by
     cases d<;>first
      |exact(hni _ rfl).elim
      |(simp[Instr.typeAssert,run_underlying hd])
    cases ok
    ·exact val e (by simp only[execOp,hve,Sem.run_bind,hrun,Result.andThen_ok,Sem.run_pure];rfl) hvr
    ·exact val e (by simp only[execOp,hve,Sem.run_bind,hrun,Result.andThen_ok,Sem.run_pure];rfl) (VR.tuple' (.cons hvr (.cons (.bool true) (.nil S))))
   ·rename_i htt
    split at e
    ·rename_i hok
     subst hok
     have hrun:(Instr.typeAssert (.iface t' v) xt t true).run P w= .ok (.tuple #[vz,.bool false]) w:=by
      cases d<;>first
       |exact(hni _ rfl).elim
       |(simp[Instr.typeAssert,run_underlying hd,Ne.symm htt,hvz])
     exact val e (by simp only[execOp,hve,Sem.run_bind,hrun,Result.andThen_ok,Sem.run_pure]) (VR.tuple' (.cons hrz (.cons (.bool false) (.nil S))))
    ·cases e
  ·rename_i d z hni hx hd hz
   have hv:=qac ht hx
   generalize hve:a.eval x=vx at hv
   obtain⟨vz,hvz,hrz⟩:=qdm hz w S
   cases hv
   split at e
   ·rename_i hok
    subst hok
    have hrun:(Instr.typeAssert .nilIface xt t true).run P w= .ok (.tuple #[vz,.bool false]) w:=by
     cases d<;>first
      |exact(hni _ rfl).elim
      |(simp[Instr.typeAssert,run_underlying hd,hvz])
    exact val e (by simp only[execOp,hve,Sem.run_bind,hrun,Result.andThen_ok,Sem.run_pure]) (VR.tuple' (.cons hrz (.cons (.bool false) (.nil S))))
   ·cases e
  ·cases e
 |extract x i=>
  simp only[opA]at e
  split at e
  ·rename_i vs hx
   split at e
   ·rename_i u hu
    obtain⟨y,hve,hy⟩:=(qac ht hx).inv_tuple
    obtain⟨v,hv,hvr⟩:=hy.get hu
    rw[Array.getElem?_toList]at hv
    exact val e (by simp[execOp,hve,Instr.extract,hv]) hvr
   ·cases e
  ·cases e
 |panic x=>
  simp only[opA]at e
  split at e
  ·rename_i t u hx
   cases e
   have hv:=qac ht hx
   generalize hve:a.eval x=vx at hv
   cases hv with
   |iface _ _ v hvr=>
    unfold Oper.wp
    have:(execOp a.eval { dst:=dst,op:= .panic x,type:=type,pos:=pos,after:=after,guard:=guard }).run P w= .halt (.panic (.iface t v)) w:=by
     simp[execOp,hve,Instr.panic]
    rw[this]
    exact hn _ S w (.refl k) (.iface t u v hvr)
  ·cases e
 |call c=>
  obtain⟨callee,args,ats⟩:=c
  cases callee with
  |invoke=>simp[opA]at e
  |value f=>
   simp only[opA]at e
   split at e
   ·rename_i g first cap as hf has
    split at e
    ·rename_i r' hr'
     cases e
     obtain⟨x1,y1,hve,h1,h2⟩:=(qac ht hf).inv_func
     have h3:=qde ht has
     obtain⟨⟨fn,hfn,hbody,hname⟩,hc⟩:=qog hcall hkeep hr'
     have hbn:fn.body.isNone=false:=by cases hb:fn.body<;>simp_all
     have hall:VRl S (first++as.map argA++cap) (x1++args.map a.eval++y1).toList:=by
      simp only[Array.toList_append,Array.toList_map]
      exact(h1.append h3.map_arg).append h2
     have hcl:=hc S w _ k hall
     unfold Oper.wp
     have:(execOp a.eval { dst:=dst,op:= .call { callee:= .value f,args:=args,argTypes:=ats },type:=type,pos:=pos,after:=after,guard:=guard }).run P w=
      .ok (.enter g (x1++args.map a.eval++y1)) w:=by
      simp only[execOp,resolve,hve,Deferred.ofValue,Sem.run_bind,Sem.run_pure,Result.andThen_ok,invoke,qh4 hfn hbn hname]
     rw[this,Oper.upon_enter]
     refine qa0 hcl fun e' w' hp=> ?_
     cases r' with
     |ret u f'=>
      obtain⟨v,S',rfl,hst,hvr⟩:=hp
      exact hn v S' w' hst hvr
     |pan u f'=>
      obtain⟨v,S',rfl,hst,hvr⟩:=hp
      exact hn v S' w' hst hvr
    ·cases e
   ·cases e
  |builtin b=>
   simp only[opA]at e
   split at e
   ·rename_i x t has hat
    have hA:=qde ht has
    obtain⟨vx,l,hm,hx,hl⟩:=hA.inv_cons
    have hl0:=hl.inv_nil
    subst hl0
    have hargs:args.map a.eval= #[vx]:=by apply wc;simpa using hm
    have done:∀(n:Nat),b= .len→((∃s,x= .str s∧P.underlying t=some .string∧n=s.length)∨(∃es tk e,x= .slice es tk∧P.underlying t=some (.slice e)∧n=es.length)∨(∃es b q e,x= .ms es b q n∧P.underlying t=some (.slice e)))→
     some (OR.val (.int .i64 n) .same)=some r→Oper.wp P { dst:=dst,op:= .call { callee:= .builtin b,args:=args,argTypes:=ats },type:=type,pos:=pos,after:=after,guard:=guard } a w next Q:=by
     intro n hb hcase e'
     subst hb
     have hrun:=len_sound (P:=P) (w:=w) hx type ats hat hcase
     exact val e' (by simp[execOp,resolve,hargs,invoke,builtin,hrun]) (.int _ _)
    split at e
    ·rename_i s hu
     split at e
     ·exact done _ rfl (.inl ⟨s,rfl,hu,rfl⟩) e
     ·cases e
    ·rename_i es tk el hu
     exact done _ rfl (.inr (.inl ⟨es,tk,el,rfl,hu,rfl⟩)) e
    ·rename_i es b q n el hu
     exact done _ rfl (.inr (.inr ⟨es,b,q,el,rfl,hu⟩)) e
    ·rename_i b kt1 et1 hu
     unfold qfr at e
     split at e
     ·rename_i a0 he0
      split at he0
      ·rename_i ks vs hb
       cases he0
       cases hx with
       |mref _ r0 hr0=>
       obtain⟨r',E,q,g1,g2,g3,g4,_⟩:=k.map b ks vs hb
       rw[hr0]at g1;cases g1
       have hsz:ks.length=E.size:=by have:=g3.1;simpa using this
       have hrun:(Builtin.len_ ats type #[.map (some r0)]).run P w= .ok (.int .i64 ks.length) w:=by
        simp[Builtin.len_,hat,run_underlying hu,goInt,MapKept.run_getObj_map g2,hsz]
       exact val e (by simp[execOp,resolve,hargs,invoke,builtin,hrun]) (.int _ _)
      ·cases he0
     ·cases e
    ·rename_i hu
     cases hx
     have hrun:(Builtin.len_ ats type #[.map none]).run P w= .ok (.int .i64 0) w:=by
      simp[Builtin.len_,hat,run_underlying hu,goInt]
     exact val e (by simp[execOp,resolve,hargs,invoke,builtin,hrun]) (.int _ _)
    ·rename_i es el hu
     cases e
     have hrun:(Builtin.cap_ ats type #[vx]).run P w= .ok (.int .i64 es.length) w:=by
      cases hx with
      |slice _ _ ad m cap _ _ hn _ _ _ _ _ _ _ ht=>
       have:cap=m:=ht
       simp[Builtin.cap_,hat,run_underlying hu,goInt,hn,this]
      |snil=>simp[Builtin.cap_,hat,run_underlying hu,goInt]
     exact val rfl (by simp[execOp,resolve,hargs,invoke,builtin,hrun]) (.int _ _)
    ·cases e
   ·rename_i x y t has hat
    have hA:=qde ht has
    obtain⟨vx,l,hm,hx,hl⟩:=hA.inv_cons
    obtain⟨vy,l2,rfl,hy,hl2⟩:=hl.inv_cons
    have hl0:=hl2.inv_nil
    subst hl0
    have hargs:args.map a.eval= #[vx,vy]:=by apply wc;simpa using hm
    split at e
    ·split at e
     ·rename_i hat2
      have hat2:ats[1]? =some t:=by simpa using hat2
      split at e
      ·rename_i u f' hap
       cases e
       obtain⟨v,w',S',h1,h2,h3⟩:=qmr k (ty:=type) hx hy hap
       have hsame:(Builtin.append_ ats type #[vx,vy]).run P w= .ok v w':=by
        have:Builtin.append_ ats type #[vx,vy]=Builtin.append_ #[t,t] type #[vx,vy]:=by
         simp only[Builtin.append_,hat,hat2]
         rfl
        rw[this];exact h1
       exact qc6 (by simp[execOp,resolve,hargs,invoke,builtin,hsame]) (hn _ _ _ h2 h3)
      ·cases e
     ·split at e
      ·rename_i u f' ik hap hik
       cases e
       obtain⟨t2,hat2,hu2⟩:∃t2,ats[1]? =some t2∧P.underlying t2=some (.int ik):=by
        cases h9:ats[1]? with
        |none=>rw[h9]at hik;cases hik
        |some t2=>rw[h9]at hik;exact⟨t2,rfl,hik⟩
       obtain⟨v,w',S',h1,h2,h3⟩:=qms k (ty:=type) hu2 hx hy hap
       have hsame:(Builtin.append_ ats type #[vx,vy]).run P w= .ok v w':=by
        have:Builtin.append_ ats type #[vx,vy]=Builtin.append_ #[t,t2] type #[vx,vy]:=by
         simp only[Builtin.append_,hat,hat2]
         rfl
        rw[this];exact h1
       exact qc6 (by simp[execOp,resolve,hargs,invoke,builtin,hsame]) (hn _ _ _ h2 h3)
      ·cases e
    ·split at e
     ·rename_i u hu
      unfold maxA at hu
      split at hu
      ·rename_i hl'
       cases hl'
       split at hu
       ·rename_i hk
        subst hk
        cases hx;cases hy
        cases hu
        exact val e (by simp[execOp,resolve,hargs,invoke,builtin,Builtin.max_,Builtin.max2]) (.int _ _)
       ·cases hu
      ·cases hu
     ·cases e
    ·split at e
     ·rename_i u hu
      unfold minA at hu
      split at hu
      ·rename_i hl'
       cases hl'
       split at hu
       ·rename_i hk
        subst hk
        cases hx;cases hy
        cases hu
        exact val e (by simp[execOp,resolve,hargs,invoke,builtin,Builtin.min_,Builtin.min2]) (.int _ _)
       ·cases hu
      ·cases hu
     ·cases e
    ·cases e
   ·cases e
 |makeSlice t x y=>
  simp only[opA]at e
  split at e
  ·rename_i u1 u2 h1 h2
   split at e
   ·rename_i u f hm
    cases e
    obtain⟨v,w',S',g1,g2,g3⟩:=qka k (qac ht h1) (qac ht h2) hm
    exact qc6 (by simp only[execOp,Sem.run_bind,g1,Result.andThen_ok,Sem.run_pure]) (hn _ _ _ g2 g3)
   ·cases e
  ·cases e
 |makeMap t r0=>
  cases r0 with
  |some _=>simp[opA]at e
  |none=>
   simp only[opA]at e
   cases e
   obtain⟨v,w',S',g1,g2,g3⟩:=qmt k t
   exact qc6 (by simp only[execOp,Option.map_none,Sem.run_bind,g1,Result.andThen_ok,Sem.run_pure]) (hn _ _ _ g2 g3)
 |lookup t x y ok=>
  simp only[opA]at e
  split at e
  ·rename_i u1 u2 h1 h2
   split at e
   ·rename_i u hu
    obtain⟨v,hv,hvr⟩:=qmu k (qac ht h1) (qac ht h2) hu
    exact val e (by simp only[execOp,Sem.run_bind,hv,Result.andThen_ok,Sem.run_pure]) hvr
   ·cases e
  ·cases e
 |mapUpdate t m x y=>
  simp only[opA]at e
  split at e
  ·rename_i u1 u2 u3 h1 h2 h3
   split at e
   ·rename_i h' b hs
    cases e
    obtain⟨w',g1,g2⟩:=qhx k (qac ht h1) (qac ht h2) (qac ht h3) hs
    exact qkc (by simp only[execOp,Sem.run_bind,g1,Result.andThen_ok,Sem.run_pure]) (hn _ _ _ g2 .undef)
   ·cases e
  ·cases e
 |insert t m x y=>
  simp only[opA]at e
  split at e
  ·rename_i u1 u2 u3 h1 h2 h3
   split at e
   ·rename_i h' b hs
    cases e
    obtain⟨w',g1,g2⟩:=qhx k (qac ht h1) (qac ht h2) (qac ht h3) hs
    exact qkc (by simp only[execOp,Sem.run_bind,g1,Result.andThen_ok,Sem.run_pure]) (hn _ _ _ g2 .undef)
   ·cases e
  ·cases e
 |ready=>simp[opA]at e
 |waits=>simp[opA]at e
 |sliceToArrayPointer=>simp[opA]at e
 |makeChan=>simp[opA]at e
 |mapEntry=>simp[opA]at e
 |entryStore=>simp[opA]at e
 |range=>simp[opA]at e
 |next=>simp[opA]at e
 |entry=>simp[opA]at e
 |go=>simp[opA]at e
 |defer=>simp[opA]at e
 |send=>simp[opA]at e
 |recv=>simp[opA]at e
 |select=>simp[opA]at e
theorem eqH_sound [Tabs P] (k:WR P S h w) {t:TypeId} {y:Operand} {a b:AVal} {va vb:Value} {r:Bool} (hx:VR S a va) (hy:VR S b vb) (hev:∀v,y= .const v→vb=v) (e:eqH P h (P.underlying t) y a b=some r):
 (Op.equal t va vb).run P w= .ok r w∧va≠ .nilIface∧(∀c,va≠ .agg c)∧(∀k n,va≠ .int k n)∧(∀s,va≠ .string s):=by
 have nil:qh0 y=true→vb= .slice none 0 0:=by
  intro hn
  cases y with
  |const v=>
   have:=hev v rfl
   subst this
   unfold qh0 at hn
   split at hn
   ·rename_i h1;cases h1;rfl
   ·cases hn
  |_=>cases hn
 unfold eqH at e
 split at e
 ·rename_i hu;cases hx;cases hy;cases e
  exact⟨by unfold Op.equal Op.maxDepth;rw[Op.equalIn];simp only[Sem.run_bind,run_underlying hu,Result.andThen_ok];rfl,by simp,by simp,by simp,by simp⟩
 ·rename_i hu;cases hx;cases hy;cases e
  exact⟨by unfold Op.equal Op.maxDepth;rw[Op.equalIn];simp only[Sem.run_bind,run_underlying hu,Result.andThen_ok];rfl,by simp,by simp,by simp,by simp⟩
 ·rename_i hu;cases hx;cases hy;cases e
  exact⟨by unfold Op.equal Op.maxDepth;rw[Op.equalIn];simp only[Sem.run_bind,run_underlying hu,Result.andThen_ok];rfl,by simp,by simp,by simp,by simp⟩
 ·rename_i hu;cases hx;cases hy;cases e
  exact⟨by unfold Op.equal Op.maxDepth;rw[Op.equalIn];simp only[Sem.run_bind,run_underlying hu,Result.andThen_ok];rfl,by simp,by simp,by simp,by simp⟩
 ·rename_i el b1 o1 b2 o2 hu
  split at e
  ·rename_i n cs1 cs2 hsz hb1 hb2
   cases e
   cases hx with
   |ptr _ _ r1 hr1=>
   cases hy with
   |ptr _ _ r2 hr2=>
   obtain⟨q1,C1,T1,g1,g2,_,_⟩:=k.box b1 cs1 hb1
   obtain⟨q2,C2,T2,g3,g4,_,_⟩:=k.box b2 cs2 hb2
   rw[hr1]at g1;cases g1
   rw[hr2]at g3;cases g3
   have hrun:(Op.equal t (.pointer (some ⟨r1,o1,none⟩)) (.pointer (some ⟨r2,o2,none⟩))).run P w=(sameAddr ⟨r1,o1,none⟩ ⟨r2,o2,none⟩).run P w:=by
    unfold Op.equal Op.maxDepth;rw[Op.equalIn]
    simp only[Sem.run_bind,run_underlying hu,Result.andThen_ok,qa5 hsz]
    simp
   refine⟨?_,by simp,by simp,by simp,by simp⟩
   rw[hrun]
   by_cases hbb:b1=b2
   ·subst hbb
    rw[hr1]at hr2;cases hr2
    by_cases hoo:o1=o2
    ·subst hoo;rw[run_sameAddr_same];simp
    ·rw[run_sameAddr_other w (by simp[hoo]) g2 g4];simp[hoo]
   ·have hne:r1≠r2:=fun e=>hbb (k.injρ b1 b2 r1 hr1 (e▸hr2))
    rw[run_sameAddr_other w (by simp[hne]) g2 g4];simp[hbb]
  ·cases e
 ·rename_i el b1 o1 n1 b2 o2 n2 hu
  split at e
  ·rename_i n p1 cs1 l1 e1 p2 cs2 l2 e2 hsz hb1 hb2
   split at e
   ·rename_i hcur
    obtain⟨rfl,rfl⟩:=hcur
    cases e
    cases hx with
    |mptr _ _ _ r1 o1' h1=>
    cases hy with
    |mptr _ _ _ r2 o2' h2=>
    obtain⟨q1,cap1,C1,i1,g1,g2,_⟩:=k.arr b1 p1 cs1 n1 e1 hb1
    obtain⟨q2,cap2,C2,i2,g3,g4,_⟩:=k.arr b2 p2 cs2 n2 e2 hb2
    obtain⟨s1,c1,l1',d1,_,d2⟩:=h1
    obtain⟨s2,c2,l2',d3,_,d4⟩:=h2
    rw[g1]at d1;cases d1
    rw[g3]at d3;cases d3
    have d2:=d2 rfl
    have d4:=d4 rfl
    simp only[Addr.mk.injEq,and_true]at d2 d4
    obtain⟨rfl,rfl⟩:=d2
    obtain⟨rfl,rfl⟩:=d4
    have hrun:(Op.equal t (.pointer (some ⟨r1,o1',none⟩)) (.pointer (some ⟨r2,o2',none⟩))).run P w=(sameAddr ⟨r1,o1',none⟩ ⟨r2,o2',none⟩).run P w:=by
     unfold Op.equal Op.maxDepth;rw[Op.equalIn]
     simp only[Sem.run_bind,run_underlying hu,Result.andThen_ok,qa5 hsz]
     simp
    refine⟨?_,by simp,by simp,by simp,by simp⟩
    rw[hrun]
    by_cases hbb:b1=b2
    ·subst hbb
     rw[g1]at g3;cases g3
     by_cases hoo:o1'=o2'
     ·subst hoo;rw[run_sameAddr_same];simp
     ·rw[run_sameAddr_other w (by simp[hoo]) g2 g4];simp[hoo]
    ·have hne:r1≠r2:=fun e=>hbb (k.injτ b1 b2 r1 _ _ _ _ g1 (e▸g3))
     rw[run_sameAddr_other w (by simp[hne]) g2 g4];simp[hbb]
   ·cases e
  ·cases e
 ·rename_i hu
  split at e
  ·rename_i hn
   cases e
   cases hx with
   |slice=>
   have h9:=nil hn
   subst h9
   exact⟨by unfold Op.equal Op.maxDepth;rw[Op.equalIn];simp only[Sem.run_bind,run_underlying hu,Result.andThen_ok];rfl,by simp,by simp,by simp,by simp⟩
  ·cases e
 ·rename_i hu
  split at e
  ·rename_i hn
   cases e
   cases hx with
   |snil _ h=>rcases h with h|h<;>cases h
   |slice=>
   have h9:=nil hn
   subst h9
   exact⟨by unfold Op.equal Op.maxDepth;rw[Op.equalIn];simp only[Sem.run_bind,run_underlying hu,Result.andThen_ok];rfl,by simp,by simp,by simp,by simp⟩
  ·cases e
 ·rename_i hu
  split at e
  ·rename_i hn
   cases e
   cases hx with
   |ms=>
   have h9:=nil hn
   subst h9
   exact⟨by unfold Op.equal Op.maxDepth;rw[Op.equalIn];simp only[Sem.run_bind,run_underlying hu,Result.andThen_ok];rfl,by simp,by simp,by simp,by simp⟩
  ·cases e
 ·rename_i hu;cases hx;cases hy;cases e
  exact⟨by unfold Op.equal Op.maxDepth;rw[Op.equalIn];simp only[Sem.run_bind,run_underlying hu,Result.andThen_ok];rfl,by simp,by simp,by simp,by simp⟩
 ·rename_i hu;cases hx;cases hy;cases e
  exact⟨by unfold Op.equal Op.maxDepth;rw[Op.equalIn];simp only[Sem.run_bind,run_underlying hu,Result.andThen_ok];rfl,by simp,by simp,by simp,by simp⟩
 ·cases e
theorem binH_run {op:BinOp} {t:TypeId} {x y:Operand} {va vb:Value} {r:Bool} (hq:(Op.equal t va vb).run P w= .ok r w) (h1:va≠ .nilIface) (h2:∀c,va≠ .agg c) (h3:∀k n,va≠ .int k n) (h4:∀s,va≠ .string s)
 (hv:(∃a,va= .pointer a)∨(∃a n c,va= .slice a n c)∨∃a,va= .map a) {u:OR} (e:(match op with| .eql=>some (.val (.bool r) .same)| .neq=>some (.val (.bool !r) .same)|_=>none:Option OR)=some u):
 ∃b,u= .val (.bool b) .same∧((do eqGuard op t x y va vb;binOp op t va vb:Sem Value)).run P w= .ok (.bool b) w:=by
 have g:=qfe (P:=P) (w:=w) (op:=op) (t:=t) (x:=x) (y:=y) (va:=va) (vb:=vb) h1 h2
 split at e
 ·cases e
  refine⟨r,rfl,?_⟩
  simp only[Sem.run_bind,g,Result.andThen_ok]
  rcases hv with⟨a,rfl⟩|⟨a,n,c,rfl⟩|⟨a,rfl⟩<;>simp only[binOp,Sem.run_bind,hq,Result.andThen_ok,Sem.run_pure]
 ·cases e
  refine⟨!r,rfl,?_⟩
  simp only[Sem.run_bind,g,Result.andThen_ok]
  rcases hv with⟨a,rfl⟩|⟨a,n,c,rfl⟩|⟨a,rfl⟩<;>simp only[binOp,Sem.run_bind,hq,Result.andThen_ok,Sem.run_pure]
 ·cases e
theorem exH_sound [Tabs P] {o:Oper} {a:Act} {ts:List AVal} {r:OR} {next:Act→World→Prop} {Q:Exit→Act→World→Prop} (k:WR P S h w) (ht:VRl S ts a.tmps.toList) (e:exH P o ts h=some r)
 (hn:After P S h w o a next Q r):o.wp P a w next Q:=by
 have val:∀{u:AVal} {v:Value},(some (OR.val u .same)=some r)→(execOp a.eval o).run P w= .ok (.value v) w→VR S u v→o.wp P a w next Q:=by
  intro u v e hr hv
  cases e
  exact qc6 hr (hn v S w (.refl k) hv)
 obtain⟨dst,op,type,pos,after,guard⟩:=o
 unfold exH at e
 simp only at e
 split at e
 ·rename_i op t x y t2
  split at e
  ·rename_i u1 u2 h1 h2
   split at e
   ·rename_i r1 hr1
    have hx:=qac ht h1
    have hy:=qac ht h2
    obtain⟨g1,g2,g3,g4,g5⟩:=eqH_sound k hx hy (fun v hv=>by subst hv;rfl) hr1
    have hv:(∃p,a.eval x= .pointer p)∨(∃p n c,a.eval x= .slice p n c)∨∃p,a.eval x= .map p:=by
     unfold eqH at hr1
     generalize a.eval x=vx at hx
     split at hr1<;>first|(cases hr1;done)|(cases hx<;>simp)
    obtain⟨b,rfl,hrun⟩:=binH_run (x:=x) (y:=y) g1 g2 g3 g4 g5 hv e
    refine val rfl ?_ (.bool b)
    simp only[execOp]
    rw[Sem.run_bind,hrun]
    rfl
   ·cases e
  ·cases e
 ·cases e
theorem qga [Tabs P] {cmp:List TypeId} (hcmp:∀t∈cmp,qca P t=true) {call:Call} (hcall:qay P call) (hkeep:qaj call) {o:Oper} {a:Act} {ts:List AVal} {r:OR}
 {next:Act→World→Prop} {Q:Exit→Act→World→Prop} (k:WR P S h w) (ht:VRl S ts a.tmps.toList) (e:orH P o ts h (opA P cmp call o ts h)=some r)
 (hn:After P S h w o a next Q r):o.wp P a w next Q:=by
 unfold orH at e
 split at e
 ·rename_i r' hr'
  cases e
  exact qd7 hcmp hcall hkeep k ht hr' hn
 ·exact exH_sound k ht e hn
theorem exH_same {o:Oper} {ts:List AVal} {h:qaa} {r:OR} (e:exH P o ts h=some r):∃v,r= .val v .same∧(refs v=[]):=by
 unfold exH at e
 repeat' split at e
 all_goals first
  |(cases e;done)
  |(cases e;exact⟨_,rfl,rfl⟩)
theorem opH_inv {cmp:List TypeId} {call:Call} {o:Oper} {ts:List AVal} {h:qaa} {r:OR} (e:orH P o ts h (opA P cmp call o ts h)=some r):opA P cmp call o ts h=some r∨∃v,r= .val v .same∧refs v=[]:=by
 unfold orH at e
 split at e
 ·rename_i r' hr';cases e;exact .inl hr'
 ·exact .inr (exH_same e)
theorem qm9 {cmp:List TypeId} {call call':Call} {o:Oper} {ts:List AVal} {h:qaa} {r:OR} (e:exH P o ts h=some r):opA P cmp call o ts h=opA P cmp call' o ts h:=by
 obtain⟨dst,op,type,pos,after,guard⟩:=o
 unfold exH at e
 simp only at e
 split at e
 ·rfl
 ·cases e
end Go.Ab
