/- Soundness of the single operations: values and reads. -/
import Derived.Test.YtlfollkhlephmaaGreatDoorAbRel
import Derived.Laws.Cells
import Derived.Laws.Tables
import Derived.Laws.CopyRow
import Derived.Laws.StructEq
import Derived.Laws.Build
set_option linter.unusedSimpArgs false
set_option linter.unusedVariables false
set_option maxRecDepth 100000
set_option maxHeartbeats 4000000
open Array renaming getElem?_toList→wa
open List renaming getElem?_drop→wb
open Prod renaming fst→wc
namespace Go.Ab
variable {P:Program} {S:Sh} {h:qaa} {w:World}
theorem qks {v:Value} {a:AVal} (e:ofV0 v=some a):VR S a v:=by
 unfold ofV0 at e
 split at e<;>first|(cases e;first|exact .bool _|exact .int _ _|exact .str _ _ rfl|exact .nilp|exact .snil _ (.inr rfl)|exact .nilf|exact .nili|exact .nilm)|(cases e)
theorem qg2:∀{vs:List Value} {l:List AVal},ofVs vs=some l→VRl S l vs
 |[],l,e=>by cases e;exact .nil S
 |v::r,l,e=>by
  unfold ofVs at e
  split at e
  ·rename_i a m h1 h2
   cases e
   exact .cons (qks h1) (qg2 h2)
  ·cases e
theorem qd5 {v:Value} {a:AVal} (e:ofV v=some a):VR S a v:=by
 unfold ofV at e
 split at e
 ·rename_i cs
  cases hl:ofVs cs.toList with
  |none=>simp[hl]at e
  |some l=>simp[hl]at e;subst e;have:=VR.agg' (qg2 (S:=S) hl);simpa using this
 ·rename_i cs
  cases hl:ofVs cs.toList with
  |none=>simp[hl]at e
  |some l=>simp[hl]at e;subst e;have:=VR.tuple' (qg2 (S:=S) hl);simpa using this
 ·exact qks e
theorem qac {ts:List AVal} {a:Act} (ht:VRl S ts a.tmps.toList) {x:Operand} {u:AVal} (e:qab x ts=some u):VR S u (a.eval x):=by
 cases x with
 |tmp t=>
  obtain⟨v,hv,hr⟩:=ht.get (show ts[t]? =some u from e)
  have:a.eval (.tmp t)=v:=by
   simp only[Act.eval,Array.getD_eq_getD_getElem?]
   rw[wa]at hv
   rw[hv];rfl
  rw[this];exact hr
 |const v=>exact qd5 e
 |global g=>cases e
 |func f=>cases e;exact .func _ _ _ _ _ rfl rfl (fun j u v hu=>by simp at hu) (fun j u v hu=>by simp at hu)
theorem qde {ts:List AVal} {a:Act} (ht:VRl S ts a.tmps.toList):∀{xs:List Operand} {us:List AVal},qal ts xs=some us→VRl S us (xs.map a.eval)
 |[],us,e=>by cases e;exact .nil S
 |x::r,us,e=>by
  unfold qal at e
  split at e
  ·rename_i u l h1 h2
   cases e
   exact .cons (qac ht h1) (qde ht h2)
  ·cases e
theorem qef {ts:List AVal} {a:Act} (ht:VRl S ts a.tmps.toList):∀{xs:List (Nat×Operand)} {us:List (Nat×AVal)},qar ts xs=some us→
 us.map wc=xs.map wc∧VRl S (us.map Prod.snd) (xs.map fun x=>a.eval x.2)
 |[],us,e=>by cases e;exact⟨rfl,.nil S⟩
 |(i,x)::r,us,e=>by
  unfold qar at e
  split at e
  ·rename_i u l h1 h2
   cases e
   have ih:=qef ht h2
   exact⟨by simp[ih.1],.cons (qac ht h1) ih.2⟩
  ·cases e
theorem qfi {t:TypeId} {b:Bool} (e:aggA P t=some b) (w:World):(isAgg t).run P w= .ok b w:=by
 unfold aggA at e
 split at e
 ·rename_i fs hu;cases e;simp[isAgg,run_underlying hu]
 ·rename_i n el hu;cases e;simp[isAgg,run_underlying hu]
 ·rename_i d h1 h2 hu
  cases e
  simp only[isAgg,Sem.run_bind,run_underlying hu,Result.andThen_ok]
  rfl
 ·cases e
theorem qdr {t:TypeId} {n:Nat} (e:qah P t=some n):∃i,P.info? t=some i∧i.size=n:=by
 unfold qah at e
 cases hi:P.info? t with
 |none=>simp[hi]at e
 |some i=>simp[hi]at e;exact⟨i,rfl,e⟩
theorem qa5 {t:TypeId} {n:Nat} (e:qah P t=some n) (w:World):(sizeOf t).run P w= .ok n w:=by
 obtain⟨i,hi,rfl⟩:=qdr e
 simp[sizeOf,typeInfo,hi]
theorem qeg {t:TypeId} {z:AVal} (e:qap P t=some z):∃i v,P.info? t=some i∧i.zero=some v∧ofV v=some z:=by
 unfold qap at e
 split at e
 ·rename_i i hi
  split at e
  ·rename_i v hv;exact⟨i,v,hi,hv,e⟩
  ·cases e
 ·cases e
theorem qdm {t:TypeId} {z:AVal} (e:qap P t=some z) (w:World) (S:Sh):∃v,(zeroValue t).run P w= .ok v w∧VR S z v:=by
 obtain⟨i,v,hi,hz,ho⟩:=qeg e
 exact⟨v,by simp[zeroValue,typeInfo,hi,hz],qd5 ho⟩
theorem qkt {r:Nat}:∀(l:List AVal) (o:Nat),(∀(j:Nat) (a:AVal),l[j]? =some a→∃v,w.cell? ⟨r,o+j,none⟩=some v∧VR S a v)→
 ∃xs:List Value,VRl S l xs∧∀(j:Nat) (v:Value),xs[j]? =some v→w.cell? ⟨r,o+j,none⟩=some v
 |[],_,_=>⟨[],.nil S,fun j v hv=>by simp at hv⟩
 |a::l,o,hc=>by
  obtain⟨v,hv,hr⟩:=hc 0 a rfl
  obtain⟨xs,hx,hxs⟩:=qkt l (o+1) (fun j a ha=>by
   obtain⟨v,hv,hr⟩:=hc (j+1) a (by simpa using ha)
   exact⟨v,by rw[show o+1+j=o+(j+1) by omega];exact hv,hr⟩)
  refine⟨v::xs,.cons hr hx,fun j u hu=> ?_⟩
  cases j with
  |zero=>simp at hu;subst hu;exact hv
  |succ j=>rw[show o+(j+1)=o+1+j by omega];exact hxs j u (by simpa using hu)
theorem qg3 {t:TypeId} {cs:List AVal} {off r o0:Nat} {u:AVal}
 (hc:∀(j:Nat) (a:AVal),cs[j]? =some a→∃v,w.cell? ⟨r,o0+j,none⟩=some v∧VR S a v) (e:qbp P t cs off=some u):
 ∃v,(loadVar t ⟨r,o0+off,none⟩).run P w= .ok v w∧VR S u v:=by
 unfold qbp at e
 split at e
 ·rename_i n ha hs
  simp only at e
  split at e
  ·rename_i hl
   cases e
   obtain⟨xs,hx,hxs⟩:=qkt (S:=S) (w:=w) (r:=r) ((cs.drop off).take n) (o0+off) (fun j a hj=>by
    have h1:cs[off+j]? =some a:=by
     rw[List.getElem?_take]at hj
     split at hj
     ·rw[wb]at hj;exact hj
     ·cases hj
    rw[show o0+off+j=o0+(off+j) by omega]
    exact hc _ _ h1)
   have hlen:xs.length=n:=by rw[←hx.1,hl]
   have hrun:=run_loadCells_list (P:=P) w ⟨r,o0+off,none⟩ xs (fun j v hv=>by rw[Addr.add_lit];exact hxs j v hv)
   rw[hlen]at hrun
   refine⟨.agg xs.toArray,?_,VR.agg' hx⟩
   simp[loadVar,qfi ha,qa5 hs,hrun]
  ·cases e
 ·rename_i ha hs
  obtain⟨v,hv,hr⟩:=hc off u e
  exact⟨v,by simp[loadVar,qfi ha,hv],hr⟩
 ·cases e
theorem qku {t:TypeId} {cs:List AVal} {off:Nat} {x:Array Value} {u:AVal} (hx:VRl S cs x.toList) (e:qbp P t cs off=some u):
 ∃v,(part t x off).run P w= .ok v w∧VR S u v:=by
 unfold qbp at e
 split at e
 ·rename_i n ha hs
  simp only at e
  split at e
  ·rename_i hl
   cases e
   have h1:=(hx.drop off).take n
   have e2:(x.extract off (off+n)).toList=(x.toList.drop off).take n:=by
    simp[List.extract_eq_take_drop]
   refine⟨.agg (x.extract off (off+n)),by simp[part,qfi ha,qa5 hs],?_⟩
   have:=VR.agg' h1
   rw[←e2,Array.toArray_toList]at this
   exact this
  ·cases e
 ·rename_i ha hs
  obtain⟨v,hv,hr⟩:=hx.get e
  rw[wa]at hv
  exact⟨v,by simp[part,qfi ha,hv],hr⟩
 ·cases e
theorem qjt [Tabs P] (k:WR P S h w) {t:TypeId} {p u:AVal} {pv:Value} (hp:VR S p pv) (e:qb9 P h t p=some u):
 ∃v,(Instr.loadAt t pv).run P w= .ok v w∧VR S u v:=by
 unfold qb9 at e
 split at e
 ·rename_i b off
  cases hp with
  |ptr _ _ r hr=>
  split at e
  ·rename_i cs hb
   obtain⟨r',C,T,h1,h2,h3,_⟩:=k.box b cs hb
   rw[hr]at h1;cases h1
   have:=qg3 (P:=P) (S:=S) (w:=w) (r:=r) (o0:=0) (t:=t) (off:=off) (u:=u) (cs:=cs) (fun j a hj=>by
    obtain⟨v,hv,hvr⟩:=h3.get hj
    rw[wa]at hv
    exact⟨v,by simp[World.cell?,h2,hv],hvr⟩) e
   obtain⟨v,hv,hvr⟩:=this
   refine⟨v,?_,hvr⟩
   simp[Instr.loadAt,Instr.sureAddr]
   simpa using hv
  ·cases e
 ·rename_i cs off
  cases hp with
  |eptr _ _ r o0 vs h1 hp h2=>
  have:=qg3 (P:=P) (S:=S) (w:=w) (r:=r) (o0:=o0) (t:=t) (off:=off) (u:=u) (cs:=cs) (fun j a hj=>
   ⟨vs j,(k.imm _ _ (h1 j a hj)).1,h2 j a hj⟩) e
  obtain⟨v,hv,hvr⟩:=this
  exact⟨v,by simp[Instr.loadAt,Instr.sureAddr,hv],hvr⟩
 ·rename_i b off n
  cases hp with
  |mptr _ _ _ r9 o9 hm=>
  split at e
  ·rename_i p cs l el hb
   split at e
   ·rename_i hnl
    obtain⟨rfl,hpo⟩:=hnl
    obtain⟨r,cap,C,i,h1,h2,h3,h4,h5,h6,h7,h8,h9,h10⟩:=k.arr b p cs n el hb
    obtain⟨r',c',l',g1,g2,g3⟩:=hm
    rw[h1]at g1;cases g1
    have:=g3 rfl
    simp only[Addr.mk.injEq,and_true]at this
    obtain⟨rfl,rfl⟩:=this
    have:=qg3 (P:=P) (S:=S) (w:=w) (r:=r9) (o0:=p) (t:=t) (off:=o9-p) (u:=u) (cs:=cs) (fun j a hj=>by
     obtain⟨v,hv,hvr⟩:=h9.get hj
     have hj':=(List.getElem?_eq_some_iff.1 hj).1
     rw[List.getElem?_take_of_lt hj',wb,wa]at hv
     exact⟨v,by simp[World.cell?,h2,hv],hvr⟩) e
    obtain⟨v,hv,hvr⟩:=this
    rw[show p+(o9-p)=o9 by omega]at hv
    exact⟨v,by simp[Instr.loadAt,Instr.sureAddr,hv],hvr⟩
   ·cases e
  ·cases e
 ·cases e
end Go.Ab
