/- Readings of arrays: three expressions, two numbers. -/
import Derived.Test.YtngklkmeknmloaaGreatDoorAbRead
import Derived.OpenShut
set_option linter.unusedSimpArgs false
set_option linter.unusedVariables false
set_option maxRecDepth 100000
set_option maxHeartbeats 4000000
open Nat renaming le_refl→wa,zero_mul→wd
open List renaming append_nil→wb,drop_zero→wc
namespace Go.Ab
section
variable {H:Type} {enc:TypeId×Value→H} {P:Program} {w:World} {F:Nat→Option Obj} {B:DataW H→Nat} {BA:List (DataW H)→Nat}
theorem rd_elems {fuel:Nat} {cs:List Value} {xs:List (DataW H×List MemPlace)} (fs:List (TypeId×Nat)):(∀(i:Nat) f,fs[i]? =some f→DataW.trod enc P w 0 (fun _=>true) true fuel f.1 ((cs.drop f.2).take (P.cellsOf f.1))=xs[i]?)→
 xs.length=fs.length→qj3 enc P w fuel cs fs (xs.map (·.1)):=by
 induction fs generalizing xs with
 |nil=>intro h hl;cases xs with
  |nil=>trivial
  |cons=>simp at hl
 |cons f fs ih=>
  intro h hl
  cases xs with
  |nil=>simp at hl
  |cons x xs=>
   refine⟨⟨x.2,?_⟩,ih (fun i f hf=> ?_) (by simpa using hl)⟩
   ·exact h 0 f rfl
   ·have:=h (i+1) f (by simpa using hf)
    simpa using this
theorem arr_inv {fuel n:Nat} {t e:TypeId} {cs:List Value} {d:DataW H} (hu:P.underlying t=some (.array n e)) (h:Tr enc P w fuel t cs d):
 ∃m ds,fuel=m+1∧d= .agg ds∧cs.length=P.cellsOf t∧qj3 enc P w m cs ((List.range n).map fun i=>(e,i*P.cellsOf e)) ds:=by
 obtain⟨pl,h⟩:=h
 obtain⟨xs,m,rfl,e1,hl,hx,hf⟩:=DataW.trod_array hu h
 cases e1
 refine⟨m,_,rfl,rfl,hl,rd_elems _ (fun i f hi=> ?_) (by simpa using hx)⟩
 rw[List.getElem?_map]at hi
 cases hr:(List.range n)[i]? with
 |none=>rw[hr]at hi;cases hi
 |some j=>
  rw[hr]at hi
  cases hi
  obtain⟨h1,h2⟩:=List.getElem?_eq_some_iff.1 hr
  simp only[List.length_range]at h1
  simp only[List.getElem_range]at h2
  subst h2
  exact hf i h1
def cells3 (x:PExpr×PExpr×PExpr):List AVal:=x.1.cells++(x.2.1.cells++x.2.2.cells)
theorem rd_arr3 (hB:Bulk B BA) {t e:TypeId} (hu:P.underlying t=some (.array 3 e)) (ht:P.cellsOf t=15) (he:P.cellsOf e=5) (ty:ExprTy P e) (n:Nat):
 RdN enc P w F B n t cells3 (fun x=>x.1.Rng∧x.2.1.Rng∧x.2.2.Rng) (fun x=>x.1.bulk+x.2.1.bulk+x.2.2.bulk):=by
 intro fuel hfu cs d h
 obtain⟨m,ds,rfl,rfl,hl,hfs⟩:=arr_inv hu h
 rw[he]at hfs
 obtain⟨d0,ds,rfl,h0,hfs⟩:=qev (fs:=[(e,5),(e,10)]) hfs
 obtain⟨d1,ds,rfl,h1,hfs⟩:=qev hfs
 obtain⟨d2,ds,rfl,h2,hfs⟩:=qev hfs
 have:=qqx hfs
 subst this
 rw[ht]at hl
 rw[he]at h0 h1 h2
 obtain⟨x0,v0,o0,b0⟩:=qxz (enc:=enc) (w:=w) (F:=F) hB ty m m (wa _) _ _ h0
 obtain⟨x1,v1,o1,b1⟩:=qxz (enc:=enc) (w:=w) (F:=F) hB ty m m (wa _) _ _ h1
 obtain⟨x2,v2,o2,b2⟩:=qxz (enc:=enc) (w:=w) (F:=F) hB ty m m (wa _) _ _ h2
 refine⟨⟨x0,x1,x2⟩,?_,⟨o0,o1,o2⟩,?_⟩
 ·have q:=qew v0 (qew v1 (qew v2 (qsl hl) rfl) rfl) rfl
  simpa only[cells3,wb,wd,wc]using q
 ·simp only[hB.agg,hB.consA,hB.nilA]
  omega
theorem rd_arr2 (hB:Bulk B BA) {t e:TypeId} (hu:P.underlying t=some (.array 2 e)) (ht:P.cellsOf t=2) (he:P.cellsOf e=1) (hi:P.underlying e=some (.int .i64)) (n:Nat):
 RdN enc P w F B n t (fun x:Int×Int=>[.int .i64 x.1,.int .i64 x.2]) (fun x=>qbl x.1∧qbl x.2) (fun _=>2):=by
 intro fuel hfu cs d h
 obtain⟨m,ds,rfl,rfl,hl,hfs⟩:=arr_inv hu h
 rw[he]at hfs
 obtain⟨d0,ds,rfl,h0,hfs⟩:=qev (fs:=[(e,1)]) hfs
 obtain⟨d1,ds,rfl,h1,hfs⟩:=qev hfs
 have:=qqx hfs
 subst this
 rw[ht]at hl
 rw[he]at h0 h1
 obtain⟨x0,v0,o0,b0⟩:=qsk (enc:=enc) (w:=w) (F:=F) hB m hi m (wa _) _ _ h0
 obtain⟨x1,v1,o1,b1⟩:=qsk (enc:=enc) (w:=w) (F:=F) hB m hi m (wa _) _ _ h1
 refine⟨⟨x0,x1⟩,?_,⟨o0,o1⟩,?_⟩
 ·have q:=qew v0 (qew v1 (qsl hl) rfl) rfl
  simpa only[wb,wd,wc,List.cons_append,List.nil_append]using q
 ·simp only[hB.agg,hB.consA,hB.nilA]
  simp only at b0 b1
  omega
end
end Go.Ab
