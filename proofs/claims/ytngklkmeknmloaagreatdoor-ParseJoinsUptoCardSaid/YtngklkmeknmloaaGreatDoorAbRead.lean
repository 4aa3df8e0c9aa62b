/- Readings of expressions. -/
import Derived.Test.YtngklkmeknmloaaGreatDoorAbEqs
import Derived.ChangeShapes
import Derived.ChangeArms
import GoSem.ClaimChange
set_option linter.unusedSimpArgs false
set_option linter.unusedVariables false
set_option maxRecDepth 100000
set_option maxHeartbeats 4000000
namespace Go.Ab
def S0 (w:World) (F:Nat→Option Obj):Sh:={ M:=fun a=>if a.spot=none then w.cell? a else none,ρ:=fun _=>none,τ:=fun _=>none,F }
theorem S0_wr {P:Program} [Tabs P] {w:World} {F:Nat→Option Obj} (hF:∀x o,F x=some o→w.heap[x]? =some o) (hok:Tabs.ok P F):WR P (S0 w F) [] w where
 imm a v ha:=by
  simp only[S0]at ha
  split at ha
  ·exact⟨ha,‹_›⟩
  ·cases ha
 box b cs h:=by simp at h
 tok b l e h:=by simp at h
 ρdom b r h:=by cases h
 τdom b x h:=by cases h
 injρ b b' r h:=by cases h
 injτ b b' r c c' l l' h:=by cases h
 apart b b' r c l h:=by cases h
 frz x o h:=⟨hF x o h,fun b h=>(by cases h),fun t c l h=>(by cases h)⟩
 laid:=hok
structure Bulk {H:Type} (B:DataW H→Nat) (BA:List (DataW H)→Nat):Prop where
 str:∀s,B (.lit (.string s))=s.length+1
 lit:∀l,1≤B (.lit l)
 nil:B .nil=1
 slice:∀es sp,B (.slice es sp)=BA es+BA sp+1
 agg:∀ps,B (.agg ps)=BA ps+1
 nilA:BA []=0
 consA:∀d r,BA (d::r)=B d+BA r
section
variable {H:Type} (enc:TypeId×Value→H) (P:Program) (w:World) (F:Nat→Option Obj) (B:DataW H→Nat)
def Tr (fuel:Nat) (t:TypeId) (cs:List Value) (d:DataW H):Prop:=∃pl,DataW.trod enc P w 0 (fun _=>true) true fuel t cs=some (d,pl)
def RdN (n:Nat) (t:TypeId) {X:Type} (cells:X→List AVal) (ok:X→Prop) (bulk:X→Nat):Prop:=
 ∀fuel,fuel≤n→∀cs d,Tr enc P w fuel t cs d→∃x,VRl (S0 w F) (cells x) cs∧ok x∧bulk x≤B d
variable {enc P w F B}
theorem RdN.mono {n m:Nat} {t:TypeId} {X:Type} {cells:X→List AVal} {ok:X→Prop} {bulk:X→Nat} (h:RdN enc P w F B n t cells ok bulk) (hm:m≤n):RdN enc P w F B m t cells ok bulk:=
 fun fuel hf=>h fuel (by omega)
theorem rd_str {BA:List (DataW H)→Nat} (hB:Bulk B BA) (n:Nat) {t:TypeId} (hu:P.underlying t=some .string):RdN enc P w F B n t (fun s:List UInt8=>[.str s]) (fun _=>True) (fun s=>s.length+1):=by
 intro fuel hf cs d ⟨pl,h⟩
 obtain⟨s,rfl,e,hw⟩:=DataW.trod_string hu h
 cases e
 exact⟨_,.cons (.str _ _ rfl) (.nil _),trivial,by rw[hB.str];exact Nat.le_refl _⟩
def qbq {X:Type} (f:X→Nat):List X→Nat
 |[]=>0
 |x::r=>f x+qbq f r
end
end Go.Ab
namespace Go.Ab
mutual
def PExpr.bulk:PExpr→Nat
 | .mk _ name _ cons kids=>name.length+qbq (fun s:Str=>s.length+1) cons+PExpr.bulkL kids+6
def PExpr.bulkL:List PExpr→Nat
 |[]=>0
 |e::r=>e.bulk+PExpr.bulkL r
end
theorem bulkL_sum (l:List PExpr):PExpr.bulkL l=qbq PExpr.bulk l:=by
 induction l with
 |nil=>simp[PExpr.bulkL,qbq]
 |cons e r ih=>simp[PExpr.bulkL,qbq,ih]
def qbp (n:Int):Prop:= -9223372036854775808≤n∧n≤9223372036854775807
inductive PExpr.Rng:PExpr→Prop where
 |mk (op:Int) (name:Str) (n:Int) (cons:List Str) (kids:List PExpr):qbp op→qbp n→(∀k∈kids,k.Rng)→PExpr.Rng (.mk op name n cons kids)
theorem qg0 {X:Type} (f:X→Nat) (h:∀x,1≤f x) (l:List X):l.length≤qbq f l:=by
 induction l with
 |nil=>simp
 |cons x r ih=>have:=h x;simp only[List.length_cons,qbq];omega
theorem qhi {X:Type} (f:X→Nat) (l:List X) (x:X) (h:x∈l):f x≤qbq f l:=by
 induction l with
 |nil=>cases h
 |cons y r ih=>
  simp only[qbq]
  rcases List.mem_cons.1 h with rfl|h
  ·omega
  ·have:=ih h;omega
theorem qi5 (l:List Str) {n:Nat} (h:qbq (fun s:Str=>s.length+1) l≤n) (hn:n≤qac):qfm l:=by
 refine⟨?_,fun s hs=> ?_⟩
 ·have:=qg0 (fun s:Str=>s.length+1) (fun _=>by omega) l;omega
 ·have:=qhi (fun s:Str=>s.length+1) l s hs;have h2:s.length+1≤qbq (fun s:Str=>s.length+1) l:=this;omega
theorem PExpr.small_of_bulk (e:PExpr):∀n,e.bulk≤n→n≤qac→e.Small:=by
 induction e using PExpr.induct with
 |h op name m cons kids ih=>
  intro n hn hl
  simp only[PExpr.bulk,bulkL_sum]at hn
  refine .mk _ _ _ _ _ (by omega) (qi5 cons (n:=n) (by omega) hl) ?_ (fun k hk=>ih k hk n ?_ hl)
  ·have:=qg0 PExpr.bulk (fun x=>by cases x;simp[PExpr.bulk]) kids;omega
  ·have:=qhi PExpr.bulk kids k hk;omega
section
variable {H:Type} {enc:TypeId×Value→H} {P:Program} {w:World} {F:Nat→Option Obj} {B:DataW H→Nat} {BA:List (DataW H)→Nat}
end
end Go.Ab
