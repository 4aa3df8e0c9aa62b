/- Readings of the project's structs. -/
import Derived.Test.YtngklkmeknmloaaGreatDoorAbRead
import Derived.Test.YtngklkmeknmloaaGreatDoorAbTypes
set_option linter.unusedSimpArgs false
set_option linter.unusedVariables false
set_option maxRecDepth 100000
set_option maxHeartbeats 4000000
namespace Go.Ab
def PEq.bulk (x:PEq):Nat:=(qbh (fun s:Str=>s.length+1) x.names+1)+x.e.bulk
def PEq.Rng (x:PEq):Prop:=x.e.Rng
def PWay.bulk (x:PWay):Nat:=x.cond.bulk+(x.to.length+1)
def PWay.Rng (x:PWay):Prop:=x.cond.Rng
def PState.bulk (x:PState):Nat:=(x.name.length+1)+(qbh PEq.bulk x.eqs+1)+(qbh PWay.bulk x.ways+1)
def PState.Rng (x:PState):Prop:=(∀y∈x.eqs,PEq.Rng y)∧(∀y∈x.ways,PWay.Rng y)
def PItem.bulk (x:PItem):Nat:=x.eq.bulk+(qbh PState.bulk x.states+1)
def PItem.Rng (x:PItem):Prop:=x.eq.Rng∧(∀y∈x.states,PState.Rng y)
def PEnum.bulk (x:PEnum):Nat:=(x.name.length+1)+(qbh (fun s:Str=>s.length+1) x.cons+1)
def PEnum.Rng (x:PEnum):Prop:=x=x
def PNode.bulk (x:PNode):Nat:=(x.name.length+1)+(qbh (fun s:Str=>s.length+1) x.funs+1)+(qbh (fun s:Str=>s.length+1) x.ins+1)+(qbh (fun s:Str=>s.length+1) x.outs+1)+(qbh PItem.bulk x.items+1)
def PNode.Rng (x:PNode):Prop:=(∀y∈x.items,PItem.Rng y)
def PProg.bulk (x:PProg):Nat:=(qbh PEnum.bulk x.enums+1)+(qbh PNode.bulk x.nodes+1)
def PProg.Rng (x:PProg):Prop:=(∀y∈x.enums,PEnum.Rng y)∧(∀y∈x.nodes,PNode.Rng y)
def PTok.bulk (x:PTok):Nat:=1+(x.text.length+1)+1+1+1
def PTok.Rng (x:PTok):Prop:=qft x.sort∧qft x.n∧qft x.line∧qft x.col
def PFault.bulk (_x:PFault):Nat:=1+1+1
def PFault.Rng (x:PFault):Prop:=qft x.err∧qft x.a∧qft x.b
theorem PEq.bulk_pos (x:PEq):1≤x.bulk:=by
 unfold PEq.bulk;omega
theorem PEq.small_of_bulk (x:PEq) (n:Nat) (h:x.bulk≤n) (hn:n≤qae):x.Small:=by
 unfold PEq.bulk at h;unfold PEq.Small
 exact⟨qd6 x.names (n:=n) (by omega) hn,x.e.small_of_bulk n (by omega) hn⟩
theorem PWay.bulk_pos (x:PWay):1≤x.bulk:=by
 unfold PWay.bulk;omega
theorem PWay.small_of_bulk (x:PWay) (n:Nat) (h:x.bulk≤n) (hn:n≤qae):x.Small:=by
 unfold PWay.bulk at h;unfold PWay.Small
 exact⟨x.cond.small_of_bulk n (by omega) hn,by omega⟩
theorem PState.bulk_pos (x:PState):1≤x.bulk:=by
 unfold PState.bulk;omega
theorem PState.small_of_bulk (x:PState) (n:Nat) (h:x.bulk≤n) (hn:n≤qae):x.Small:=by
 unfold PState.bulk at h;unfold PState.Small
 exact⟨by omega,by have:=qc9 PEq.bulk PEq.bulk_pos x.eqs;omega,fun y hy=>y.small_of_bulk n (by have:=qda PEq.bulk x.eqs y hy;omega) hn,by have:=qc9 PWay.bulk PWay.bulk_pos x.ways;omega,fun y hy=>y.small_of_bulk n (by have:=qda PWay.bulk x.ways y hy;omega) hn⟩
theorem PItem.bulk_pos (x:PItem):1≤x.bulk:=by
 unfold PItem.bulk;have:=x.eq.bulk_pos;omega
theorem PItem.small_of_bulk (x:PItem) (n:Nat) (h:x.bulk≤n) (hn:n≤qae):x.Small:=by
 unfold PItem.bulk at h;unfold PItem.Small
 exact⟨x.eq.small_of_bulk n (by omega) hn,by have:=qc9 PState.bulk PState.bulk_pos x.states;omega,fun y hy=>y.small_of_bulk n (by have:=qda PState.bulk x.states y hy;omega) hn⟩
theorem PEnum.bulk_pos (x:PEnum):1≤x.bulk:=by
 unfold PEnum.bulk;omega
theorem PEnum.small_of_bulk (x:PEnum) (n:Nat) (h:x.bulk≤n) (hn:n≤qae):x.Small:=by
 unfold PEnum.bulk at h;unfold PEnum.Small
 exact⟨by omega,qd6 x.cons (n:=n) (by omega) hn⟩
theorem PNode.bulk_pos (x:PNode):1≤x.bulk:=by
 unfold PNode.bulk;omega
theorem PNode.small_of_bulk (x:PNode) (n:Nat) (h:x.bulk≤n) (hn:n≤qae):x.Small:=by
 unfold PNode.bulk at h;unfold PNode.Small
 exact⟨by omega,qd6 x.funs (n:=n) (by omega) hn,qd6 x.ins (n:=n) (by omega) hn,qd6 x.outs (n:=n) (by omega) hn,by have:=qc9 PItem.bulk PItem.bulk_pos x.items;omega,fun y hy=>y.small_of_bulk n (by have:=qda PItem.bulk x.items y hy;omega) hn⟩
theorem PProg.bulk_pos (x:PProg):1≤x.bulk:=by
 unfold PProg.bulk;omega
theorem PProg.small_of_bulk (x:PProg) (n:Nat) (h:x.bulk≤n) (hn:n≤qae):x.Small:=by
 unfold PProg.bulk at h;unfold PProg.Small
 exact⟨by have:=qc9 PEnum.bulk PEnum.bulk_pos x.enums;omega,fun y hy=>y.small_of_bulk n (by have:=qda PEnum.bulk x.enums y hy;omega) hn,by have:=qc9 PNode.bulk PNode.bulk_pos x.nodes;omega,fun y hy=>y.small_of_bulk n (by have:=qda PNode.bulk x.nodes y hy;omega) hn⟩
theorem PTok.bulk_pos (x:PTok):1≤x.bulk:=by
 unfold PTok.bulk;omega
theorem PTok.small_of_bulk (x:PTok) (n:Nat) (h:x.bulk≤n) (hn:n≤qae):x.Small:=by
 unfold PTok.bulk at h;unfold PTok.Small
 exact by omega
theorem PFault.bulk_pos (x:PFault):1≤x.bulk:=by
 unfold PFault.bulk;omega
section
variable {H:Type} {enc:TypeId×Value→H} {P:Program} {w:World} {F:Nat→Option Obj} {B:DataW H→Nat} {BA:List (DataW H)→Nat}
end
end Go.Ab
