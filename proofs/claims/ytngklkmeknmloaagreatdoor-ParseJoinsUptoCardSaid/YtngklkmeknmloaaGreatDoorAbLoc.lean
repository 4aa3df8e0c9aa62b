/- What is read within a row of tokens is read whatever stands behind it. -/
import Derived.Test.YtngklkmeknmloaaGreatDoorAbPSpec
set_option linter.unusedSimpArgs false
set_option linter.unusedVariables false
set_option maxRecDepth 100000
set_option maxHeartbeats 4000000
open List renaming cons_append→wa,nil_append→wc,tail_cons→wd,mem_cons_of_mem→we,length_cons→wg
open Bool renaming false_eq_true→wb
open Iff renaming rfl→wf
namespace Go.Ab
open Go
section
variable {α β:Type}
structure Sf (y x:List PTok):Prop where
 l:y.length≤x.length
 m:∀t∈y,t∈x
structure Sf1 (y x:List PTok):Prop where
 l:y.length<x.length
 m:∀t∈y,t∈x
theorem Sf.refl (x:List PTok):Sf x x:=⟨Nat.le_refl _,fun _ h=>h⟩
theorem Sf.cons {y x:List PTok} (h:Sf y x) (t:PTok):Sf y (t::x):=⟨by have:=h.l;simp only[wg];omega,fun u hu=>we _ (h.m u hu)⟩
theorem Sf.one {y x:List PTok} (h:Sf y x) (t:PTok):Sf1 y (t::x):=⟨by have:=h.l;simp only[wg];omega,fun u hu=>we _ (h.m u hu)⟩
theorem Sf1.sf {y x:List PTok} (h:Sf1 y x):Sf y x:=⟨Nat.le_of_lt h.l,h.m⟩
theorem Sf1.cons {y x:List PTok} (h:Sf1 y x) (t:PTok):Sf1 y (t::x):=h.sf.one t
theorem Sf.trans {z y x:List PTok} (h:Sf z y) (k:Sf y x):Sf z x:=⟨by have:=h.l;have:=k.l;omega,fun t ht=>k.m t (h.m t ht)⟩
theorem Sf1.trans {z y x:List PTok} (h:Sf1 z y) (k:Sf y x):Sf1 z x:=⟨by have:=h.l;have:=k.l;omega,fun t ht=>k.m t (h.m t ht)⟩
theorem Sf.nil {y:List PTok} (h:Sf y []):y=[]:=List.eq_nil_of_length_eq_zero (by have:=h.l;simpa using this)
def Loc (f:List PTok→PR α):Prop:=∀(x:List PTok) (e:PTok) (a:α) (r:List PTok),e.sort=6→f (x++[e])= .ok a r→∃y,r=y++[e]∧Sf y x∧(y≠[]→∀z,f (x++z)= .ok a (y++z))
def LocC (f:List PTok→PR α):Prop:=∀(x:List PTok) (e:PTok) (a:α) (r:List PTok),e.sort=6→f (x++[e])= .ok a r→∃y,r=y++[e]∧Sf1 y x∧∀z,f (x++z)= .ok a (y++z)
theorem LocC.loc {f:List PTok→PR α} (h:LocC f):Loc f:=fun x e a r he hf=>by
 obtain⟨y,h1,h2,h3⟩:=h x e a r he hf
 exact⟨y,h1,h2.sf,fun _=>h3⟩
theorem qli {x:PR α} {k:α→List PTok→PR β} {b:β} {ts:List PTok} (h:x.bind k= .ok b ts):∃a ts1,x= .ok a ts1∧k a ts1= .ok b ts:=by
 cases x with
 |ok a ts1=>exact⟨a,ts1,rfl,h⟩
 |bad e t=>cases h
 |out=>cases h
theorem ne_len {y x:List PTok} (h:y≠[]) (k:Sf y x):x≠[]:=fun e=>h (by subst e;exact k.nil)
theorem Loc.bind {f:List PTok→PR α} {k:α→List PTok→PR β} (hf:Loc f) (hk:∀a,Loc (k a)):Loc (fun ts=>(f ts).bind k):=fun x e b r he h=>by
 obtain⟨a,t1,h1,h2⟩:=qli h
 obtain⟨y,rfl,l1,g1⟩:=hf x e a t1 he h1
 obtain⟨y',rfl,l2,g2⟩:=hk a y e b r he h2
 exact⟨y',rfl,l2.trans l1,fun hne z=>by show(f (x++z)).bind k=_;rw[g1 (ne_len hne l2) z];exact g2 hne z⟩
theorem LocC.bind {f:List PTok→PR α} {k:α→List PTok→PR β} (hf:Loc f) (hk:∀a,LocC (k a)):LocC (fun ts=>(f ts).bind k):=fun x e b r he h=>by
 obtain⟨a,t1,h1,h2⟩:=qli h
 obtain⟨y,rfl,l1,g1⟩:=hf x e a t1 he h1
 obtain⟨y',rfl,l2,g2⟩:=hk a y e b r he h2
 refine⟨y',rfl,l2.trans l1,fun z=> ?_⟩
 have hy:y≠[]:=fun e=>by rw[e]at l2;have:=l2.l;simp at this
 show(f (x++z)).bind k=_
 rw[g1 hy z];exact g2 z
theorem Loc.ok (a:α):Loc (fun ts=> .ok a ts):=fun x e b r _ h=>by
 cases h
 exact⟨x,rfl,.refl x,fun _ _=>rfl⟩
theorem Loc.bad (c:Int):Loc (α:=α) (fun ts=> .bad c ts):=fun x e b r _ h=>by cases h
theorem Loc.out:Loc (α:=α) (fun _=> .out):=fun x e b r _ h=>by cases h
theorem qv2 {s:Str} {e:PTok} (he:e.sort=6) (r:List PTok):hasS s (e::r)=false:=by simp[hasS,qg1,he]
theorem Loc.has (s:Str) {f g:List PTok→PR α} (hf:Loc f) (hg:Loc g):Loc (fun ts=>if hasS s ts=true then f ts.tail else g ts):=fun x e b r he h=>by
 cases x with
 |nil=>
  simp only[wc,qv2 he,wb,if_false]at h
  obtain⟨y,h1,h2,_⟩:=hg [] e b r he h
  have:y=[]:=h2.nil
  exact⟨y,h1,h2,fun hn=>absurd this hn⟩
 |cons t x=>
  simp only[wa]at h ⊢
  have hh:∀q:List PTok,hasS s (t::q)=qg1 s t:=fun _=>rfl
  simp only[hh,wd]at h ⊢
  cases hs:qg1 s t
  ·rw[hs]at h
   obtain⟨y,h1,h2,h3⟩:=hg (t::x) e b r he h
   exact⟨y,h1,h2,h3⟩
  ·rw[hs]at h
   obtain⟨y,h1,h2,h3⟩:=hf x e b r he h
   exact⟨y,h1,h2.cons t,h3⟩
theorem Loc.want {k:List PTok→PR α} (s:Str) (hk:Loc k):Loc (fun ts=>qbe s ts k):=Loc.has s hk (.bad 3)
theorem LocC.want {k:List PTok→PR α} (s:Str) (hk:LocC k):LocC (fun ts=>qbe s ts k):=fun x e b r he h=>by
 unfold qbe at h
 cases x with
 |nil=>simp only[wc,qv2 he,wb,if_false]at h;cases h
 |cons t x=>
  have hh:∀q:List PTok,hasS s (t::q)=qg1 s t:=fun _=>rfl
  simp only[wa,hh,wd]at h
  cases hs:qg1 s t
  ·rw[hs]at h;cases h
  ·rw[hs]at h
   obtain⟨y,h1,h2,h3⟩:=hk x e b r he h
   refine⟨y,h1,h2.cons t,fun z=> ?_⟩
   simp only[wa,qbe,hh,hs,if_true,wd]
   exact h3 z
theorem LocC.wantOk (s:Str) (a:α):LocC (fun ts=>qbe s ts fun ts=> .ok a ts):=fun x e b r he h=>by
 unfold qbe at h
 cases x with
 |nil=>simp only[wc,qv2 he,wb,if_false]at h;cases h
 |cons t x=>
  have hh:∀q:List PTok,hasS s (t::q)=qg1 s t:=fun _=>rfl
  simp only[wa,hh,wd]at h
  cases hs:qg1 s t
  ·rw[hs]at h;cases h
  ·rw[hs]at h
   cases h
   exact⟨x,rfl,(Sf.refl x).one t,fun z=>by simp only[wa,qbe,hh,hs,if_true,wd]⟩
theorem Loc.word {k:Str→List PTok→PR α} {n:Int} (hn:n≠6) (hk:∀s,Loc (k s)):Loc (fun ts=>qdf n ts k):=fun x e b r he h=>by
 cases x with
 |nil=>
  have:(e.sort==n)=false:=by rw[he];simpa using fun h=>hn h.symm
  simp only[wc,qdf,this,wb,if_false]at h;cases h
 |cons t x=>
  simp only[wa,qdf]at h ⊢
  split at h
  ·obtain⟨y,h1,h2,h3⟩:=hk t.text x e b r he h
   rename_i hs
   refine⟨y,h1,h2.cons t,fun hy z=> ?_⟩
   rw[if_pos hs];exact h3 hy z
  ·cases h
theorem LocC.word {k:Str→List PTok→PR α} {n:Int} (hn:n≠6) (hk:∀s,LocC (k s)):LocC (fun ts=>qdf n ts k):=fun x e b r he h=>by
 cases x with
 |nil=>
  have:(e.sort==n)=false:=by rw[he];simpa using fun h=>hn h.symm
  simp only[wc,qdf,this,wb,if_false]at h;cases h
 |cons t x=>
  simp only[wa,qdf]at h ⊢
  split at h
  ·obtain⟨y,h1,h2,h3⟩:=hk t.text x e b r he h
   rename_i hs
   refine⟨y,h1,h2.cons t,fun z=> ?_⟩
   rw[if_pos hs];exact h3 z
  ·cases h
theorem Loc.ite {f g:List PTok→PR α} {c:List PTok→Prop} [∀ts,Decidable (c ts)] (hc:∀t r r',c (t::r)↔c (t::r')) (hf:Loc f) (hg:Loc g):Loc (fun ts=>if c ts then f ts else g ts):=fun x e b r he h=>by
 cases x with
 |nil=>
  have nn:∀{q:List PTok→PR α},Loc q→q ([]++[e])= .ok b r→∃y,r=y++[e]∧Sf y []∧(y≠[]→∀z,(if c ([]++z)then f ([]++z)else g ([]++z))= .ok b (y++z)):=fun hq h=>by
   obtain⟨y,h1,h2,_⟩:=hq [] e b r he h
   exact⟨y,h1,h2,fun hn=>absurd h2.nil hn⟩
  simp only at h
  split at h
  ·exact nn hf h
  ·exact nn hg h
 |cons t x=>
  simp only[wa]at h ⊢
  split at h
  ·rename_i hs
   obtain⟨y,h1,h2,h3⟩:=hf (t::x) e b r he h
   exact⟨y,h1,h2,fun hy z=>by rw[if_pos ((hc t _ _).1 hs)];exact h3 hy z⟩
  ·rename_i hs
   obtain⟨y,h1,h2,h3⟩:=hg (t::x) e b r he h
   exact⟨y,h1,h2,fun hy z=>by rw[if_neg (fun q=>hs ((hc t _ _).1 q))];exact h3 hy z⟩
theorem LocC.ite {f g:List PTok→PR α} {c:List PTok→Prop} [∀ts,Decidable (c ts)] (hc:∀t r r',c (t::r)↔c (t::r')) (hf:LocC f) (hg:LocC g):LocC (fun ts=>if c ts then f ts else g ts):=fun x e b r he h=>by
 cases x with
 |nil=>
  simp only at h
  split at h
  ·obtain⟨y,_,h2,_⟩:=hf [] e b r he h;have:=h2.l;simp at this
  ·obtain⟨y,_,h2,_⟩:=hg [] e b r he h;have:=h2.l;simp at this
 |cons t x=>
  simp only[wa]at h ⊢
  split at h
  ·rename_i hs
   obtain⟨y,h1,h2,h3⟩:=hf (t::x) e b r he h
   exact⟨y,h1,h2,fun z=>by rw[if_pos ((hc t _ _).1 hs)];exact h3 z⟩
  ·rename_i hs
   obtain⟨y,h1,h2,h3⟩:=hg (t::x) e b r he h
   exact⟨y,h1,h2,fun z=>by rw[if_neg (fun q=>hs ((hc t _ _).1 q))];exact h3 z⟩
theorem Loc.tok {n:Int} (hn:n≠6) {F:PTok→List PTok→PR α} {g:List PTok→PR α} (hF:∀t,Loc (F t)) (hg:Loc g):Loc (fun ts=>if qc3 ts=n then(match ts with|t::r=>F t r|[]=> .out)else g ts):=fun x e b r he h=>by
 cases x with
 |nil=>
  have:¬(qc3 ([]++[e])=n):=by show ¬e.sort=n;rw[he];exact fun h=>hn h.symm
  simp only at h
  rw[if_neg this]at h
  obtain⟨y,h1,h2,_⟩:=hg [] e b r he h
  exact⟨y,h1,h2,fun hn=>absurd h2.nil hn⟩
 |cons t x=>
  simp only[wa]at h ⊢
  have hh:∀q:List PTok,qc3 (t::q)=t.sort:=fun _=>rfl
  simp only[hh]at h ⊢
  split at h
  ·obtain⟨y,h1,h2,h3⟩:=hF t x e b r he h
   rename_i hs
   exact⟨y,h1,h2.cons t,fun hy z=>by rw[if_pos hs];exact h3 hy z⟩
  ·rename_i hs
   obtain⟨y,h1,h2,h3⟩:=hg (t::x) e b r he h
   exact⟨y,h1,h2,fun hy z=>by rw[if_neg hs];exact h3 hy z⟩
end
theorem qyr {k:Int} (hk:k≠6) (sep:Str):∀n,Loc (qfx k sep n)
 |0=>Loc.out
 |n+1=>Loc.word hk fun s=>Loc.has sep ((qyr hk sep n).bind fun l=> .ok _) (.ok _)
theorem qn4 (m:Nat) (o c:Str):LocC (qfw m o c):=LocC.want o (LocC.bind (qyr (by decide) _ m) fun l=>LocC.wantOk c l)
def LocR (R:Rd):Prop:=∀o l,Loc (R o l)
variable {R:Rd}
theorem q1w (h:LocR R) (o:Nat):∀n,Loc (qej R o n)
 |0=>Loc.out
 |n+1=>(h o 1).bind fun e=>Loc.has _ ((q1w h o n).bind fun l=> .ok _) (.ok _)
theorem pArmL_l (h:LocR R) (o:Nat):∀n,Loc (qey R o n)
 |0=>Loc.out
 |n+1=>Loc.word (by decide) fun c=>Loc.want _ ((h o 1).bind fun e=>Loc.has _ ((pArmL_l h o n).bind fun l=> .ok _) (.ok _))
theorem pArms_l (m:Nat) (h:LocR R) (o:Nat) (op:Int):Loc (qja m R o op):=Loc.word (by decide) fun x=>Loc.want _ ((pArmL_l h o m).bind fun l=>Loc.want _ (.ok _))
theorem pCall_l (m:Nat) (h:LocR R) (o:Nat) (x:Str):Loc (qii m R o x):=
 (Loc.ite (c:=fun ts=>hasS [91] ts=true) (fun t r r'=>wf) (qn4 m _ _).loc (.ok [])).bind fun c=>Loc.want _ ((q1w h o m).bind fun l=>Loc.want _ (.ok _))
theorem pAtom_l (m:Nat) (h:LocR R) (o:Nat):Loc (qhu m R o):=
 Loc.tok (n:=3) (F:=fun t r=> .ok (eInt t.n) r) (by decide) (fun t=> .ok _)
  (Loc.tok (n:=2) (F:=fun t r=> .ok (eCon t.text) r) (by decide) (fun t=> .ok _)
   (Loc.tok (n:=1) (F:=fun t r=>if(hasS [91] r||hasS [40] r)=true then qii m R o t.text r else .ok (eVar t.text) r) (by decide) (fun t=>Loc.ite (c:=fun r=>(hasS [91] r||hasS [40] r)=true) (fun t r r'=>wf) (pCall_l m h o _) (.ok _))
    (Loc.has _ (.ok _) (Loc.has _ (.ok _) (Loc.has _ (pArms_l m h o 12) (Loc.has _ (pArms_l m h o 13) (Loc.want _ ((h o 1).bind fun e=>Loc.want _ (.ok e)))))))))
theorem pWhen_l:∀(n:Nat) (e:PExpr),Loc (qdz n e)
 |0,_=>Loc.out
 |n+1,e=>Loc.has (f:=fun ts=>qdf 2 ts fun c ts=>qbe [40] ts fun ts=>qdf 1 ts fun x ts=>qbe [41] ts fun ts=>qdz n (qk0 x c e) ts) _ (Loc.word (by decide) fun c=>Loc.want _ (Loc.word (by decide) fun x=>Loc.want _ (pWhen_l n _))) (.ok e)
theorem q5h (m:Nat) (h:LocR R) (o:Nat):Loc (qd2 m R o):=
 (pAtom_l m h o).bind fun e=>Loc.bind (by
  cases he:e.op==14
  ·simp only[Bool.false_and,wb,if_false];exact .ok e
  ·simp only[Bool.true_and]
   exact Loc.has (f:=fun ts=>(R o 0 ts).bind fun k ts=> .ok (qn0 e k) ts) _ ((h o 0).bind fun k=> .ok _) (.ok e)) fun e=>pWhen_l m e
theorem pPrefix_l (m:Nat) (h:LocR R) (o:Nat):Loc (qef m R o):=
 Loc.has (f:=fun ts=>(R o 0 ts).bind fun k ts=> .ok (eUn [110,111,116] k) ts) _ ((h o 0).bind fun k=> .ok _)
  (Loc.has (f:=fun ts=>(R o 0 ts).bind fun k ts=> .ok (eUn [45] k) ts) _ ((h o 0).bind fun k=> .ok _)
   (Loc.has (f:=fun ts=>(R o 0 ts).bind fun k ts=> .ok (ePre k) ts) _ ((h o 0).bind fun k=> .ok _)
    (Loc.has (f:=fun ts=>(R o 1 ts).bind fun a ts=>qbe [116,104,101,110] ts fun ts=>(R o 1 ts).bind fun b ts=>qbe [101,108,115,101] ts fun ts=>(R o 1 ts).bind fun c ts=> .ok (eIf a b c) ts) _
     ((h o 1).bind fun a=>Loc.want _ ((h o 1).bind fun b=>Loc.want _ ((h o 1).bind fun c=> .ok _))) (q5h m h o))))
theorem sign_end {e:PTok} (he:e.sort=6) (r:List PTok):qau (e::r)=[]:=by simp[qau,he]
theorem qys (h:LocR R) (o least:Nat) (hl:0<least):∀(n most:Nat) (left:PExpr),Loc (qez R o least n most left)
 |0,_,_=>Loc.out
 |n+1,most,left=>fun x e b r he hp=>by
  cases x with
  |nil=>
   simp only[qez,wc,sign_end he]at hp
   have:qbc []<least:=hl
   rw[if_pos (.inl this)]at hp
   cases hp
   exact⟨[],rfl,.refl _,fun hn=>absurd rfl hn⟩
  |cons t x=>
   have hh:∀q:List PTok,qau (t::q)=qau [t]:=fun _=>rfl
   simp only[qez,wa,hh,wd]at hp ⊢
   split at hp
   ·rename_i hc
    cases hp
    exact⟨t::x,rfl,.refl _,fun _ z=>by rw[if_pos hc];rfl⟩
   ·rename_i hc
    have go:∀{q:List PTok→PR PExpr},Loc q→q (x++[e])= .ok b r→∃y,r=y++[e]∧Sf y (t::x)∧(y≠[]→∀z,q (x++z)= .ok b (y++z)):=fun hq hp=>by
     obtain⟨y,h1,h2,h3⟩:=hq x e b r he hp
     exact⟨y,h1,h2.cons t,h3⟩
    split at hp
    ·rename_i h1
     obtain⟨y,q1,q2,q3⟩:=go ((h o 1).bind fun r=> .ok _) hp
     exact⟨y,q1,q2,fun hy z=>by rw[if_neg hc,if_pos h1];exact q3 hy z⟩
    ·rename_i h1
     split at hp
     ·rename_i h2
      obtain⟨y,q1,q2,q3⟩:=go ((h o 2).bind fun r=>qys h o least hl n 1 _) hp
      exact⟨y,q1,q2,fun hy z=>by rw[if_neg hc,if_neg h1,if_pos h2];exact q3 hy z⟩
     ·rename_i h2
      obtain⟨y,q1,q2,q3⟩:=go ((h o _).bind fun r=>qys h o least hl n _ _) hp
      exact⟨y,q1,q2,fun hy z=>by rw[if_neg hc,if_neg h1,if_neg h2];exact q3 hy z⟩
theorem pE_l:∀n,LocR (pE n)
 |0=>fun o l=>Loc.out
 |n+1=>fun o l=>by
  have h:=pE_l n
  by_cases hl:l=0
  ·subst hl
   by_cases ho:100≤o
   ·have:pE (n+1) o 0=fun ts=> .bad 9 ts:=by funext ts;simp only[pE,if_true];rw[if_pos ho]
    rw[this];exact .bad 9
   ·have:pE (n+1) o 0=fun ts=>qef n (pE n) (o+1) ts:=by funext ts;simp only[pE,if_true];rw[if_neg ho]
    rw[this];exact pPrefix_l n h (o+1)
  ·have:pE (n+1) o l=fun ts=>(pE n o 0 ts).bind fun left ts=>qez (pE n) o l n 7 left ts:=by funext ts;simp only[pE];rw[if_neg hl]
   rw[this]
   exact(h o 0).bind fun left=>qys h o l (by omega) n 7 left
theorem pEq_l (m:Nat) (h:LocR R):LocC (pEq m R):=
 LocC.bind (Loc.ite (c:=fun ts=>hasS [40] ts=true) (fun t r r'=>wf) (qn4 m _ _).loc (Loc.word (by decide) fun s=> .ok _)) fun l=>LocC.want _ (LocC.bind (h 0 1) fun e=>LocC.wantOk _ _)
theorem pEqs_l (m:Nat) (h:LocR R):∀n,Loc (pEqs R m n)
 |0=>Loc.out
 |n+1=>Loc.ite (c:=fun ts=>qdi ts=true) (fun t r r'=>wf) ((pEq_l m h).loc.bind fun q=>(pEqs_l m h n).bind fun l=> .ok _) (.ok [])
theorem pWays_l (h:LocR R):∀n,Loc (qfy R n)
 |0=>Loc.out
 |n+1=>Loc.has (f:=fun ts=>(R 0 1 ts).bind fun e ts=>qbe [116,104,101,110] ts fun ts=>qdf 2 ts fun c ts=>qbe [59] ts fun ts=>(qfy R n ts).bind fun l ts=> .ok (PWay.mk e c::l) ts) (g:=fun ts=> .ok [] ts) _ ((h 0 1).bind fun e=>Loc.want _ (Loc.word (by decide) fun c=>Loc.want _ ((pWays_l h n).bind fun l=> .ok _))) (.ok [])
theorem pState_l (m:Nat) (h:LocR R):Loc (qhf m R):=Loc.word (by decide) fun s=>Loc.want _ ((pEqs_l m h m).bind fun q=>(pWays_l h m).bind fun w=> .ok _)
theorem qzs (m:Nat) (h:LocR R):∀n,Loc (qcg R m n)
 |0=>Loc.out
 |n+1=>(pState_l m h).bind fun s=>Loc.has (f:=fun ts=>(qcg R m n ts).bind fun l ts=> .ok (s::l) ts) _ ((qzs m h n).bind fun l=> .ok _) (.ok _)
theorem qv3 (m:Nat) (h:LocR R):∀n,Loc (qdj R m n)
 |0=>Loc.out
 |n+1=>Loc.ite (c:=fun ts=>qdi ts=true) (fun t r r'=>wf) ((pEq_l m h).loc.bind fun q=>(qv3 m h n).bind fun l=> .ok _)
  (Loc.has (f:=fun ts=>qbe [115,116,97,116,101] ts fun ts=>(qcg R m m ts).bind fun ss ts=>qbe [101,110,100] ts fun ts=>qbe [59] ts fun ts=>(qdj R m n ts).bind fun l ts=> .ok (⟨⟨[],eZero⟩,ss⟩::l) ts) _
   (Loc.want _ ((qzs m h m).bind fun ss=>Loc.want _ (Loc.want _ ((qv3 m h n).bind fun l=> .ok _)))) (.ok []))
theorem pNode_l (m:Nat) (h:LocR R):LocC (qij m R):=
 LocC.word (by decide) fun x=>LocC.bind (Loc.ite (c:=fun ts=>hasS [91] ts=true) (fun t r r'=>wf) (qn4 m _ _).loc (.ok [])) fun f=>LocC.bind (qn4 m _ _).loc fun i=>LocC.want _ (LocC.bind (qn4 m _ _).loc fun u=>
  LocC.want _ (LocC.bind (qv3 m h m) fun l=>LocC.wantOk _ _))
theorem pEnum_l (m:Nat):LocC (qk1 m):=LocC.word (by decide) fun x=>LocC.want _ (LocC.bind (qyr (by decide) _ m) fun l=>LocC.wantOk _ _)
theorem qm9 (m:Nat):∀(n k:Nat) (ts:List PTok),qcw R m n ts≠ .out→qcw R m (n+k) ts=qcw R m n ts
 |0,_,_,h=>absurd rfl h
 |n+1,k,ts,h=>by
  rw[show n+1+k=(n+k)+1 by omega]
  simp only[qcw]at h ⊢
  split
  ·rfl
  ·rename_i h6
   rw[if_neg h6]at h
   split
   ·rename_i ht
    rw[if_pos ht]at h
    cases he:qk1 m ts.tail with
    |ok t r=>
     rw[he]at h
     simp only[PR.bind]at h ⊢
     rw[qm9 m n k r (fun e=>by rw[e]at h;exact h rfl)]
    |bad e r=>rfl
    |out=>rfl
   ·rename_i ht
    rw[if_neg ht]at h
    unfold qbe at h ⊢
    split
    ·rename_i hn
     rw[if_pos hn]at h
     simp only at h ⊢
     cases he:qij m R ts.tail with
     |ok t r=>
      rw[he]at h
      simp only[PR.bind]at h ⊢
      rw[qm9 m n k r (fun e=>by rw[e]at h;exact h rfl)]
     |bad e r=>rfl
     |out=>rfl
    ·rfl
theorem qrp (h:LocR R) (m:Nat) {z rz:List PTok} {q:PProg} {k:Nat} (hz:qcw R m k z= .ok q rz):∀(n:Nat) (x:List PTok) (e:PTok) (p:PProg) (r:List PTok),(∀t∈x,t.sort≠6)→e.sort=6→qcw R m n (x++[e])= .ok p r→qcw R m (n+k) (x++z)= .ok ⟨p.enums++q.enums,p.nodes++q.nodes⟩ rz
 |0,x,e,p,r,_,_,hp=>by cases hp
 |n+1,x,e,p,r,hx,he,hp=>by
  cases x with
  |nil=>
   simp only[qcw,wc]at hp
   rw[if_pos (show qc3 [e]=6 from he)]at hp
   cases hp
   have:=qm9 (R:=R) m k (n+1) z (by rw[hz];simp)
   rw[wc,show n+1+k=k+(n+1) by omega,this,hz];rfl
  |cons t x=>
   have h6:∀r:List PTok,¬qc3 (t::r)=6:=fun _=>hx t (by simp)
   rw[show n+1+k=(n+k)+1 by omega]
   simp only[qcw,wa]at hp ⊢
   rw[if_neg (h6 _)]at hp ⊢
   have hh:∀(s:Str) (q:List PTok),hasS s (t::q)=qg1 s t:=fun _ _=>rfl
   simp only[hh,wd]at hp ⊢
   cases ht:qg1 [116,121,112,101] t
   ·rw[ht]at hp
    simp only[qbe,hh,wd,wb,if_false]at hp ⊢
    cases hn:qg1 [110,111,100,101] t
    ·rw[hn]at hp;cases hp
    ·rw[hn]at hp
     simp only[if_true]at hp ⊢
     obtain⟨a,t1,h1,h2⟩:=qli hp
     obtain⟨y,rfl,hlt,hz2⟩:=pNode_l m h x e a t1 he h1
     obtain⟨p2,t2,h3,h4⟩:=qli h2
     have hsub:∀u∈y,u.sort≠6:=fun u hu=>hx u (we _ (hlt.m u hu))
     have ih:=qrp h m hz n y e p2 t2 hsub he h3
     rw[hz2 z]
     show(qcw R m (n+k) (y++z)).bind _=_
     rw[ih]
     cases h4;rfl
   ·rw[ht]at hp
    simp only[if_true]at hp ⊢
    obtain⟨a,t1,h1,h2⟩:=qli hp
    obtain⟨y,rfl,hlt,hz2⟩:=pEnum_l m x e a t1 he h1
    obtain⟨p2,t2,h3,h4⟩:=qli h2
    have ih:=qrp h m hz n y e p2 t2 (fun u hu=>hx u (we _ (hlt.m u hu))) he h3
    rw[hz2 z]
    show(qcw R m (n+k) (y++z)).bind _=_
    rw[ih]
    cases h4;rfl
end Go.Ab
