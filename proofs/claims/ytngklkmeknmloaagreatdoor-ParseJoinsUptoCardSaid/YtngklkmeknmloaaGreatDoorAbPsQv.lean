/- Readings do not look at where tokens stand. -/
import Derived.Test.YtngklkmeknmloaaGreatDoorAbPSpec
import Derived.Test.YtngklkmeknmloaaGreatDoorAbTxt
set_option linter.unusedSimpArgs false
set_option linter.unusedVariables false
set_option maxRecDepth 100000
set_option maxHeartbeats 4000000
namespace Go.Ab
def PR.mt {α:Type}:PR α→PR α
 | .ok a ts=> .ok a (ts.map strip)
 | .bad e ts=> .bad e (ts.map strip)
 | .out=> .out
def Eqv {α:Type} (f:List PTok→PR α):Prop:=∀ts,(f ts).mt=f (ts.map strip)
theorem qk8 (s:Str) (ts:List PTok):hasS s (ts.map strip)=hasS s ts:=by cases ts<;>rfl
theorem q3u (ts:List PTok):qau (ts.map strip)=qau ts:=by cases ts<;>rfl
theorem qjm (ts:List PTok):qc3 (ts.map strip)=qc3 ts:=by cases ts<;>rfl
theorem q2m (ts:List PTok):qdi (ts.map strip)=qdi ts:=by unfold qdi;rw[qjm,qk8]
variable {α β:Type}
theorem Eqv.ok (a:α):Eqv (fun ts=> .ok a ts):=fun _=>rfl
theorem Eqv.bad (e:Int):Eqv (α:=α) (fun ts=> .bad e ts):=fun _=>rfl
theorem Eqv.out:Eqv (α:=α) (fun _=> .out):=fun _=>rfl
theorem Eqv.bind {f:List PTok→PR α} {k:α→List PTok→PR β} (hf:Eqv f) (hk:∀a,Eqv (k a)):Eqv (fun ts=>(f ts).bind k):=by
 intro ts
 show((f ts).bind k).mt=(f (ts.map strip)).bind k
 rw[←hf ts]
 cases h:f ts with
 |ok a r=>exact hk a r
 |bad e r=>rfl
 |out=>rfl
theorem Eqv.tail {f:List PTok→PR α} (hf:Eqv f):Eqv (fun ts=>f ts.tail):=by
 intro ts
 show(f ts.tail).mt=f (ts.map strip).tail
 rw[hf,List.map_tail]
theorem Eqv.ite {f g:List PTok→PR α} {c:List PTok→Prop} [∀ts,Decidable (c ts)] (hc:∀ts,c (ts.map strip)↔c ts) (hf:Eqv f) (hg:Eqv g):Eqv (fun ts=>if c ts then f ts else g ts):=by
 intro ts
 show(if c ts then f ts else g ts).mt=if c (ts.map strip)then f (ts.map strip)else g (ts.map strip)
 by_cases h:c ts
 ·rw[if_pos h,if_pos ((hc ts).2 h)];exact hf ts
 ·rw[if_neg h,if_neg (fun q=>h ((hc ts).1 q))];exact hg ts
theorem Eqv.has {f g:List PTok→PR α} (s:Str) (hf:Eqv f) (hg:Eqv g):Eqv (fun ts=>if hasS s ts=true then f ts else g ts):=Eqv.ite (c:=fun ts=>hasS s ts=true) (fun ts=>by rw[qk8]) hf hg
theorem Eqv.want {k:List PTok→PR α} (s:Str) (hk:Eqv k):Eqv (fun ts=>qbe s ts k):=Eqv.has s hk.tail (.bad 3)
theorem Eqv.word {k:Str→List PTok→PR α} (n:Int) (hk:∀s,Eqv (k s)):Eqv (fun ts=>qdf n ts k):=by
 intro ts
 cases ts with
 |nil=>rfl
 |cons t r=>
  show(if t.sort==n then k t.text r else .bad 3 (t::r)).mt=if t.sort==n then k t.text (r.map strip)else .bad 3 ((t::r).map strip)
  cases h:t.sort==n
  ·rfl
  ·exact hk _ r
theorem qyz (k:Int) (sep:Str):∀n,Eqv (qfx k sep n)
 |0=>Eqv.out
 |n+1=>Eqv.word _ fun s=>Eqv.has sep ((qyz k sep n).tail.bind fun l=> .ok _) (.ok _)
theorem qn6 (m:Nat) (o c:Str):Eqv (qfw m o c):=Eqv.want o ((qyz _ _ m).bind fun l=>Eqv.want c (.ok l))
def EqR (R:Rd):Prop:=∀o l,Eqv (R o l)
variable {R:Rd}
theorem q2n (h:EqR R) (o:Nat):∀n,Eqv (qej R o n)
 |0=>Eqv.out
 |n+1=>(h o 1).bind fun e=>Eqv.has _ ((q2n h o n).tail.bind fun l=> .ok _) (.ok _)
theorem pArmL_v (h:EqR R) (o:Nat):∀n,Eqv (qey R o n)
 |0=>Eqv.out
 |n+1=>Eqv.word _ fun c=>Eqv.want _ ((h o 1).bind fun e=>Eqv.has _ ((pArmL_v h o n).tail.bind fun l=> .ok _) (.ok _))
theorem pArms_v (m:Nat) (h:EqR R) (o:Nat) (op:Int):Eqv (qja m R o op):=Eqv.word _ fun x=>Eqv.want _ ((pArmL_v h o m).bind fun l=>Eqv.want _ (.ok _))
theorem pCall_v (m:Nat) (h:EqR R) (o:Nat) (x:Str):Eqv (qii m R o x):=(Eqv.has _ (qn6 m _ _) (.ok [])).bind fun c=>Eqv.want _ ((q2n h o m).bind fun l=>Eqv.want _ (.ok _))
theorem pAtom_v (m:Nat) (h:EqR R) (o:Nat):Eqv (qhu m R o):=by
 refine Eqv.ite (c:=fun ts=>qc3 ts=3) (fun ts=>by rw[qjm]) (fun ts=>by cases ts<;>rfl) ?_
 refine Eqv.ite (c:=fun ts=>qc3 ts=2) (fun ts=>by rw[qjm]) (fun ts=>by cases ts<;>rfl) ?_
 refine Eqv.ite (c:=fun ts=>qc3 ts=1) (fun ts=>by rw[qjm]) ?_ ?_
 ·intro ts
  cases ts with
  |nil=>rfl
  |cons t r=>
   show(if(hasS [91] r||hasS [40] r)=true then qii m R o t.text r else .ok (eVar t.text) r).mt=if(hasS [91] (r.map strip)||hasS [40] (r.map strip))=true then qii m R o t.text (r.map strip)else .ok (eVar t.text) (r.map strip)
   rw[qk8,qk8]
   split
   ·exact pCall_v m h o _ r
   ·rfl
 ·exact Eqv.has _ (Eqv.ok _).tail (Eqv.has _ (Eqv.ok _).tail (Eqv.has _ (pArms_v m h o 12).tail (Eqv.has _ (pArms_v m h o 13).tail (Eqv.want _ ((h o 1).bind fun e=>Eqv.want _ (.ok e))))))
theorem pWhen_v:∀(n:Nat) (e:PExpr),Eqv (qdz n e)
 |0,_=>Eqv.out
 |n+1,e=>Eqv.has _ (Eqv.tail (Eqv.word _ fun c=>Eqv.want _ (Eqv.word _ fun x=>Eqv.want _ (pWhen_v n _)))) (.ok e)
theorem q5n (m:Nat) (h:EqR R) (o:Nat):Eqv (qd2 m R o):=
 (pAtom_v m h o).bind fun e=>(Eqv.ite (c:=fun ts=>(e.op==14 && hasS [101,118,101,114,121] ts)=true) (fun ts=>by rw[qk8]) ((h o 0).tail.bind fun k=> .ok _) (.ok e)).bind fun e=>pWhen_v m e
theorem pPrefix_v (m:Nat) (h:EqR R) (o:Nat):Eqv (qef m R o):=
 Eqv.has _ ((h o 0).tail.bind fun k=> .ok _) (Eqv.has _ ((h o 0).tail.bind fun k=> .ok _) (Eqv.has _ ((h o 0).tail.bind fun k=> .ok _)
  (Eqv.has _ ((h o 1).tail.bind fun a=>Eqv.want _ ((h o 1).bind fun b=>Eqv.want _ ((h o 1).bind fun c=> .ok _))) (q5n m h o))))
theorem qy0 (h:EqR R) (o least:Nat):∀(n most:Nat) (left:PExpr),Eqv (qez R o least n most left)
 |0,_,_=>Eqv.out
 |n+1,most,left=>by
  intro ts
  simp only[qez,q3u]
  split
  ·rfl
  ·split
   ·exact((h o 1).tail.bind fun r=> .ok (qkz left r)) ts
   ·split
    ·exact((h o 2).tail.bind fun r=>qy0 h o least n 1 (eFby left r)) ts
    ·exact((h o (qbc (qau ts)+1)).tail.bind fun r=>qy0 h o least n (if qbc (qau ts)=5 then 4 else qbc (qau ts)) (eBin (qau ts) left r)) ts
theorem pE_v:∀n,EqR (pE n)
 |0=>fun _ _=>Eqv.out
 |n+1=>fun o l=>by
  have h:=pE_v n
  intro ts
  simp only[pE]
  split
  ·split
   ·rfl
   ·exact pPrefix_v n h (o+1) ts
  ·exact((h o 0).bind fun left=>qy0 h o l n 7 left) ts
theorem pEq_v (m:Nat) (h:EqR R):Eqv (pEq m R):=(Eqv.has _ (qn6 m _ _) (Eqv.word _ fun s=> .ok [s])).bind fun l=>Eqv.want _ ((h 0 1).bind fun e=>Eqv.want _ (.ok _))
theorem Eqv.beg {f g:List PTok→PR α} (hf:Eqv f) (hg:Eqv g):Eqv (fun ts=>if qdi ts=true then f ts else g ts):=Eqv.ite (c:=fun ts=>qdi ts=true) (fun ts=>by rw[q2m]) hf hg
theorem pEqs_v (h:EqR R) (m:Nat):∀n,Eqv (pEqs R m n)
 |0=>Eqv.out
 |n+1=>Eqv.beg ((pEq_v m h).bind fun q=>(pEqs_v h m n).bind fun l=> .ok _) (.ok [])
theorem pWays_v (h:EqR R):∀n,Eqv (qfy R n)
 |0=>Eqv.out
 |n+1=>Eqv.has _ ((h 0 1).tail.bind fun e=>Eqv.want _ (Eqv.word _ fun c=>Eqv.want _ ((pWays_v h n).bind fun l=> .ok _))) (.ok [])
theorem pState_v (m:Nat) (h:EqR R):Eqv (qhf m R):=Eqv.word _ fun s=>Eqv.want _ ((pEqs_v h m m).bind fun q=>(pWays_v h m).bind fun w=> .ok _)
theorem qz1 (h:EqR R) (m:Nat):∀n,Eqv (qcg R m n)
 |0=>Eqv.out
 |n+1=>(pState_v m h).bind fun s=>Eqv.has _ ((qz1 h m n).tail.bind fun l=> .ok _) (.ok _)
theorem qwa (h:EqR R) (m:Nat):∀n,Eqv (qdj R m n)
 |0=>Eqv.out
 |n+1=>Eqv.beg ((pEq_v m h).bind fun q=>(qwa h m n).bind fun l=> .ok _)
  (Eqv.has _ (Eqv.tail (Eqv.want _ ((qz1 h m m).bind fun ss=>Eqv.want _ (Eqv.want _ ((qwa h m n).bind fun l=> .ok _))))) (.ok []))
theorem pNode_v (m:Nat) (h:EqR R):Eqv (qij m R):=Eqv.word _ fun x=>(Eqv.has _ (qn6 m _ _) (.ok [])).bind fun f=>(qn6 m _ _).bind fun i=>Eqv.want _ ((qn6 m _ _).bind fun u=>Eqv.want _ ((qwa h m m).bind fun l=>Eqv.want _ (.ok _)))
theorem pEnum_v (m:Nat):Eqv (qk1 m):=Eqv.word _ fun x=>Eqv.want _ ((qyz _ _ m).bind fun l=>Eqv.want _ (.ok _))
theorem qqb (h:EqR R) (m:Nat):∀n,Eqv (qcw R m n)
 |0=>Eqv.out
 |n+1=>Eqv.ite (c:=fun ts=>qc3 ts=6) (fun ts=>by rw[qjm]) (.ok _)
  (Eqv.has _ ((pEnum_v m).tail.bind fun t=>(qqb h m n).bind fun p=> .ok _) (Eqv.want _ ((pNode_v m h).bind fun x=>(qqb h m n).bind fun p=> .ok _)))
theorem Eqv.back {f:List PTok→PR α} (h:Eqv f) {ts:List PTok} {a:α} {us:List PTok} (e:f (ts.map strip)= .ok a us):∃ts',f ts= .ok a ts'∧ts'.map strip=us:=by
 have:=h ts
 rw[e]at this
 cases hx:f ts with
 |ok b r=>rw[hx]at this;cases this;exact⟨r,rfl,rfl⟩
 |bad e r=>rw[hx]at this;cases this
 |out=>rw[hx]at this;cases this
end Go.Ab
