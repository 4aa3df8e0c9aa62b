/- Sizes and depths. -/
import Derived.Test.YtngklkmeknmloaaGreatDoorAbBase
set_option linter.unusedSimpArgs false
set_option linter.unusedVariables false
set_option maxRecDepth 100000
set_option maxHeartbeats 4000000
open Go.Proofs
open List renaming getElem_mem→wa
namespace Go.Ab
open Go Go.Ab.Tab
mutual
def PExpr.size:PExpr→Int
 | .mk _ _ _ _ ks=>qgc ks 1
def qgc:List PExpr→Int→Int
 |[],a=>a
 |k::r,a=>qgc r (wadd a k.size)
end
def imax (a b:Int):Int:=if a<b then b else a
mutual
def PExpr.depth:PExpr→Int
 | .mk _ _ _ _ ks=>wadd (depthL ks 0) 1
def depthL:List PExpr→Int→Int
 |[],a=>a
 |k::r,a=>depthL r (imax a k.depth)
end
theorem size_c (e:PExpr) (hsm:e.Small):Ret C 25 [.agg e.cells] (.int .i64 e.size):=by
 induction e using PExpr.induct with
 |h op name n cons ks ih=>
 obtain⟨hkl,hks⟩:=hsm.kids
 simp only[PExpr.kids]at hkl hks
 refine Ret.mk (by simp[qag,qi1 (PExpr.ok _)]) rfl ?_
 rw[C_fn rfl Tryz.func25 rfl (by kernel_rfl) (m:=18) rfl];simp only[Z3,simprocAttr,Tryz.f25,fx_25,PExpr.kids]
 generalize hb:qar PP cmp0 C lpC _=f;generalize hl:lpC f _=r
 obtain⟨ex,s',rfl,rfl,h2⟩:=qgz (α:=Nat×Int) hl [5,10,11,12,13,14,15,16,17] (fun a=>[(3,.int .i64 a.2),(9,.int .i64 a.1)]) (fun a=>a.1≤ks.length) (fun a=>ks.length-a.1) (fun a=>qgc (ks.drop a.1) a.2)
  (fun ts H r ex s=>ex= .exit 0∧At [5,9,10,11,12,13,14,15,16,17] ts H [(3,.int .i64 r)] s) (0,1) (Nat.zero_le _) (by simp only[At,ats,Int.natCast_zero]) (by
   rintro⟨i,a⟩ j H d hi
   clear hl;subst hb
   simp only[Z3,simprocAttr,fx_25]
   by_cases hlt:i<ks.length
   ·have e1:((i:Int)<(ks.length:Int)):=by omega
    have e3:(ks.map PExpr.cells)[i]? =some (ks[i].cells):=by simp[hlt]
    simp only[Z3,simprocAttr,fx_25,e1,e3,qqf,(ih ks[i] (wa hlt) (hks _ (wa hlt))) _,qb2 (show i≤qae by omega)]
    refine .inl ⟨(i+1,wadd a ks[i].size),_,rfl,hlt,by simp only[At,ats,wadd,imax],by simp only[];omega,?_⟩
    simp only[List.drop_eq_getElem_cons hlt,qgc]
   ·have e1:¬((i:Int)<(ks.length:Int)):=by omega
    simp only[Z3,simprocAttr,fx_25,e1]
    refine .inr ⟨_,_,rfl,by simp,rfl,?_⟩
    simp only[List.drop_eq_nil_of_le (Nat.le_of_not_lt hlt),qgc,At,ats])
 obtain⟨j,H,d,rfl⟩:=h2.elim
 clear hl
 simp only[Z3,simprocAttr]
 simp[PExpr.size,wadd]
end Go.Ab
