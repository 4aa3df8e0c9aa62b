/- Readings do not look at where tokens stand. -/
import Derived.Test.YtngklkmeknmloaaGreatDoorAbPSpec
import Derived.Test.YtngklkmeknmloaaGreatDoorAbBack3
set_option linter.unusedSimpArgs false
set_option linter.unusedVariables false
set_option maxRecDepth 100000
set_option maxHeartbeats 4000000
namespace Go.Ab
def PR.mt {α:Type}:PR α→PR α
 | .ok a ts=> .ok a (ts.map strip)
 | .bad e ts=> .bad e (ts.map strip)
 | .out=> .out
def Eqv {α:Type} (f:List PTok→PR α):Prop:=∀ts,(f ts).mt=f (ts.map strip)
theorem qmu (s:Str) (ts:List PTok):hasS s (ts.map strip)=hasS s ts:=by cases ts<;>rfl
theorem q3k (ts:List PTok):qap (ts.map strip)=qap ts:=by cases ts<;>rfl
theorem qh5 (ts:List PTok):qdt (ts.map strip)=qdt ts:=by cases ts<;>rfl
variable {α β:Type}
theorem Eqv.ok (a:α):Eqv (fun ts=> .ok a ts):=fun _=>rfl
theorem Eqv.bad (e:Int):Eqv (α:=α) (fun ts=> .bad e ts):=fun _=>rfl
theorem Eqv.out:Eqv (α:=α) (fun _=> .out):=fun _=>rfl
theorem Eqv.bind {f:List PTok→PR α} {k:α→List PTok→PR β} (hf:Eqv f) (hk:∀a,Eqv (k a)):Eqv (fun ts=>(f ts).bind k):=by
 intro ts
 show((f ts).bind k).mt=(f (ts.map strip)).bind k
 rw[←hf ts]
 cases h:f ts with
 |ok a r=>exact hk a r
 |bad e r=>rfl
 |out=>rfl
theorem Eqv.tail {f:List PTok→PR α} (hf:Eqv f):Eqv (fun ts=>f ts.tail):=by
 intro ts
 show(f ts.tail).mt=f (ts.map strip).tail
 rw[hf,List.map_tail]
theorem Eqv.ite {f g:List PTok→PR α} {c:List PTok→Prop} [∀ts,Decidable (c ts)] (hc:∀ts,c (ts.map strip)↔c ts) (hf:Eqv f) (hg:Eqv g):Eqv (fun ts=>if c ts then f ts else g ts):=by
 intro ts
 show(if c ts then f ts else g ts).mt=if c (ts.map strip)then f (ts.map strip)else g (ts.map strip)
 by_cases h:c ts
 ·rw[if_pos h,if_pos ((hc ts).2 h)];exact hf ts
 ·rw[if_neg h,if_neg (fun q=>h ((hc ts).1 q))];exact hg ts
theorem Eqv.has {f g:List PTok→PR α} (s:Str) (hf:Eqv f) (hg:Eqv g):Eqv (fun ts=>if hasS s ts=true then f ts else g ts):=Eqv.ite (c:=fun ts=>hasS s ts=true) (fun ts=>by rw[qmu]) hf hg
theorem Eqv.want {k:List PTok→PR α} (s:Str) (hk:Eqv k):Eqv (fun ts=>qbi s ts k):=Eqv.has s hk.tail (.bad 3)
theorem Eqv.word {k:Str→List PTok→PR α} (n:Int) (hk:∀s,Eqv (k s)):Eqv (fun ts=>qeq n ts k):=by
 intro ts
 cases ts with
 |nil=>rfl
 |cons t r=>
  show(if t.sort==n then k t.text r else .bad 3 (t::r)).mt=if t.sort==n then k t.text (r.map strip)else .bad 3 ((t::r).map strip)
  cases h:t.sort==n
  ·rfl
  ·exact hk _ r
theorem pStrs_v (k:Int) (sep:Str):∀n,Eqv (qe2 k sep n)
 |0=>Eqv.out
 |n+1=>Eqv.word _ fun s=>Eqv.has sep ((pStrs_v k sep n).tail.bind fun l=> .ok _) (.ok _)
theorem pNames_v (m:Nat) (o c:Str):Eqv (qhf m o c):=Eqv.want o ((pStrs_v _ _ m).bind fun l=>Eqv.want c (.ok l))
def EqR (R:Rd):Prop:=∀o l,Eqv (R o l)
variable {R:Rd}
theorem q2c (h:EqR R) (o:Nat):∀n,Eqv (qcu R o n)
 |0=>Eqv.out
 |n+1=>(h o 1).bind fun e=>Eqv.has _ ((q2c h o n).tail.bind fun l=> .ok _) (.ok _)
theorem pArmL_v (h:EqR R) (o:Nat):∀n,Eqv (qdh R o n)
 |0=>Eqv.out
 |n+1=>Eqv.word _ fun c=>Eqv.want _ ((h o 1).bind fun e=>Eqv.has _ ((pArmL_v h o n).tail.bind fun l=> .ok _) (.ok _))
theorem pArms_v (m:Nat) (h:EqR R) (o:Nat) (op:Int):Eqv (qjn m R o op):=Eqv.word _ fun x=>Eqv.want _ ((pArmL_v h o m).bind fun l=>Eqv.want _ (.ok _))
theorem pCall_v (m:Nat) (h:EqR R) (o:Nat) (x:Str):Eqv (qi0 m R o x):=(Eqv.has _ (pNames_v m _ _) (.ok [])).bind fun c=>Eqv.want _ ((q2c h o m).bind fun l=>Eqv.want _ (.ok _))
theorem pAtom_v (m:Nat) (h:EqR R) (o:Nat):Eqv (qgx m R o):=by
 refine Eqv.ite (c:=fun ts=>qdt ts=3) (fun ts=>by rw[qh5]) (fun ts=>by cases ts<;>rfl) ?_
 refine Eqv.ite (c:=fun ts=>qdt ts=2) (fun ts=>by rw[qh5]) (fun ts=>by cases ts<;>rfl) ?_
 refine Eqv.ite (c:=fun ts=>qdt ts=1) (fun ts=>by rw[qh5]) ?_ ?_
 ·intro ts
  cases ts with
  |nil=>rfl
  |cons t r=>
   show(if(hasS [91] r||hasS [40] r)=true then qi0 m R o t.text r else .ok (eVar t.text) r).mt=if(hasS [91] (r.map strip)||hasS [40] (r.map strip))=true then qi0 m R o t.text (r.map strip)else .ok (eVar t.text) (r.map strip)
   rw[qmu,qmu]
   split
   ·exact pCall_v m h o _ r
   ·rfl
 ·exact Eqv.has _ (Eqv.ok _).tail (Eqv.has _ (Eqv.ok _).tail (Eqv.has _ (pArms_v m h o 12).tail (Eqv.has _ (pArms_v m h o 13).tail (Eqv.want _ ((h o 1).bind fun e=>Eqv.want _ (.ok e))))))
theorem pWhen_v:∀(n:Nat) (e:PExpr),Eqv (qc2 n e)
 |0,_=>Eqv.out
 |n+1,e=>Eqv.has _ (Eqv.tail (Eqv.word _ fun c=>Eqv.want _ (Eqv.word _ fun x=>Eqv.want _ (pWhen_v n _)))) (.ok e)
theorem q5g (m:Nat) (h:EqR R) (o:Nat):Eqv (qdl m R o):=
 (pAtom_v m h o).bind fun e=>(Eqv.ite (c:=fun ts=>(e.op==14 && hasS [101,118,101,114,121] ts)=true) (fun ts=>by rw[qmu]) ((h o 0).tail.bind fun k=> .ok _) (.ok e)).bind fun e=>pWhen_v m e
theorem pPrefix_v (m:Nat) (h:EqR R) (o:Nat):Eqv (qe7 m R o):=
 Eqv.has _ ((h o 0).tail.bind fun k=> .ok _) (Eqv.has _ ((h o 0).tail.bind fun k=> .ok _) (Eqv.has _ ((h o 0).tail.bind fun k=> .ok _)
  (Eqv.has _ ((h o 1).tail.bind fun a=>Eqv.want _ ((h o 1).bind fun b=>Eqv.want _ ((h o 1).bind fun c=> .ok _))) (q5g m h o))))
theorem qyi (h:EqR R) (o least:Nat):∀(n most:Nat) (left:PExpr),Eqv (qcm R o least n most left)
 |0,_,_=>Eqv.out
 |n+1,most,left=>by
  intro ts
  simp only[qcm,q3k]
  split
  ·rfl
  ·split
   ·exact((h o 1).tail.bind fun r=> .ok (qd8 left r)) ts
   ·split
    ·exact((h o 2).tail.bind fun r=>qyi h o least n 1 (eFby left r)) ts
    ·exact((h o (qa2 (qap ts)+1)).tail.bind fun r=>qyi h o least n (if qa2 (qap ts)=5 then 4 else qa2 (qap ts)) (eBin (qap ts) left r)) ts
theorem pE_v:∀n,EqR (pE n)
 |0=>fun _ _=>Eqv.out
 |n+1=>fun o l=>by
  have h:=pE_v n
  intro ts
  simp only[pE]
  split
  ·split
   ·rfl
   ·exact pPrefix_v n h (o+1) ts
  ·exact((h o 0).bind fun left=>qyi h o l n 7 left) ts
theorem Eqv.back {f:List PTok→PR α} (h:Eqv f) {ts:List PTok} {a:α} {us:List PTok} (e:f (ts.map strip)= .ok a us):∃ts',f ts= .ok a ts'∧ts'.map strip=us:=by
 have:=h ts
 rw[e]at this
 cases hx:f ts with
 |ok b r=>rw[hx]at this;cases this;exact⟨r,rfl,rfl⟩
 |bad e r=>rw[hx]at this;cases this
 |out=>rw[hx]at this;cases this
end Go.Ab
