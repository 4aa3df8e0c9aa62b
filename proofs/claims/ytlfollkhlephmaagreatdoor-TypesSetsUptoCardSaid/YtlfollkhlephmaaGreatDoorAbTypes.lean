/- The layer's own trial run: the types. -/
import Derived.Test.YtlfollkhlephmaaGreatDoorAbSim
import Derived.Test.YtlfollkhlephmaaGreatDoorAbEqs
import Derived.Test.YtlfollkhlephmaaGreatDoorAbRead
import Derived.Test.YtlfollkhlephmaaGreatDoorAbBase
import Derived.Test.YtlfollkhlephmaaGreatDoorAbForce
set_option linter.unusedSimpArgs false
set_option linter.unusedVariables false
set_option maxRecDepth 100000
set_option maxHeartbeats 4000000
open List renaming take_of_length_le→wa,drop_length→wb,take_left→wc,drop_left→wd,getElem?_append→wg,drop_zero→wh
open Nat renaming le_refl→we
namespace Go.Ab
structure PEq where
 names:List Str
 e:PExpr
def PEq.cells (x:PEq):List AVal:=[qao x.names]++(x.e.cells)
def PEq.Small (x:PEq):Prop:=qdp x.names∧x.e.Small
theorem PEq.ok (x:PEq):CellsOk 6 x.cells:=CellsOk.append ((show CellsOk 1 [qao x.names]from⟨rfl,rfl,rfl,rfl,rfl⟩)) (x.e.ok)
theorem PEq.len (x:PEq):x.cells.length=6:=x.ok.len
theorem PEq.ones (x:PEq):x.cells.all oneA=true:=x.ok.one
theorem PEq.pures (x:PEq):x.cells.all qaq=true:=x.ok.pure
theorem PEq.strip (x:PEq):x.cells.map qas=x.cells:=x.ok.strip
theorem PEq.norefs (x:PEq):qaf x.cells=[]:=x.ok.refs
theorem PEq.take (x:PEq):List.take 6 x.cells=x.cells:=by rw[wa];rw[x.len];exact we _
theorem PEq.drop (x:PEq):List.drop 6 x.cells=[]:=by rw[←x.len,wb]
theorem PEq.takeA (x:PEq) (r:List AVal):List.take 6 (x.cells++r)=x.cells:=by rw[←x.len,wc]
theorem PEq.dropA (x:PEq) (r:List AVal):List.drop 6 (x.cells++r)=r:=by rw[←x.len,wd]
theorem PEq.get_names (x:PEq):x.cells[0]? =some (qao x.names):=by
 unfold PEq.cells
 rfl
theorem PEq.sub_e (x:PEq):List.take 5 (List.drop 1 x.cells)=x.e.cells:=by
 unfold PEq.cells
 exact x.e.take
structure PWay where
 cond:PExpr
 to:Str
def PWay.cells (x:PWay):List AVal:=x.cond.cells++([.str x.to])
def PWay.Small (x:PWay):Prop:=x.cond.Small∧x.to.length≤qa9
theorem PWay.ok (x:PWay):CellsOk 6 x.cells:=CellsOk.append (x.cond.ok) ((⟨rfl,rfl,rfl,rfl,rfl⟩:CellsOk 1 [.str x.to]))
theorem PWay.len (x:PWay):x.cells.length=6:=x.ok.len
theorem PWay.ones (x:PWay):x.cells.all oneA=true:=x.ok.one
theorem PWay.pures (x:PWay):x.cells.all qaq=true:=x.ok.pure
theorem PWay.strip (x:PWay):x.cells.map qas=x.cells:=x.ok.strip
theorem PWay.norefs (x:PWay):qaf x.cells=[]:=x.ok.refs
theorem PWay.take (x:PWay):List.take 6 x.cells=x.cells:=by rw[wa];rw[x.len];exact we _
theorem PWay.drop (x:PWay):List.drop 6 x.cells=[]:=by rw[←x.len,wb]
theorem PWay.takeA (x:PWay) (r:List AVal):List.take 6 (x.cells++r)=x.cells:=by rw[←x.len,wc]
theorem PWay.dropA (x:PWay) (r:List AVal):List.drop 6 (x.cells++r)=r:=by rw[←x.len,wd]
theorem PWay.sub_cond (x:PWay):List.take 5 (List.drop 0 x.cells)=x.cond.cells:=by
 unfold PWay.cells
 rw[wh];exact x.cond.takeA _
theorem PWay.sub0_cond (x:PWay):List.take 5 x.cells=x.cond.cells:=by
 unfold PWay.cells
 exact x.cond.takeA _
theorem PWay.get_to (x:PWay):x.cells[5]? =some (.str x.to):=by
 unfold PWay.cells
 simp[wg,x.cond.len]
structure PState where
 name:Str
 eqs:List PEq
 ways:List PWay
def PState.cells (x:PState):List AVal:=[.str x.name]++([.slice (x.eqs.map PEq.cells) .free]++([.slice (x.ways.map PWay.cells) .free]))
def PState.Small (x:PState):Prop:=x.name.length≤qa9∧x.eqs.length≤qa9∧(∀y∈x.eqs,PEq.Small y)∧x.ways.length≤qa9∧(∀y∈x.ways,PWay.Small y)
theorem PState.ok (x:PState):CellsOk 3 x.cells:=CellsOk.append ((show CellsOk 1 [.str x.name]from⟨rfl,rfl,rfl,rfl,rfl⟩)) (CellsOk.append ((show CellsOk 1 [.slice (x.eqs.map PEq.cells) .free]from⟨rfl,rfl,rfl,rfl,rfl⟩)) ((⟨rfl,rfl,rfl,rfl,rfl⟩:CellsOk 1 [.slice (x.ways.map PWay.cells) .free])))
theorem PState.len (x:PState):x.cells.length=3:=x.ok.len
theorem PState.ones (x:PState):x.cells.all oneA=true:=x.ok.one
theorem PState.pures (x:PState):x.cells.all qaq=true:=x.ok.pure
theorem PState.strip (x:PState):x.cells.map qas=x.cells:=x.ok.strip
theorem PState.norefs (x:PState):qaf x.cells=[]:=x.ok.refs
theorem PState.take (x:PState):List.take 3 x.cells=x.cells:=by rw[wa];rw[x.len];exact we _
theorem PState.drop (x:PState):List.drop 3 x.cells=[]:=by rw[←x.len,wb]
theorem PState.takeA (x:PState) (r:List AVal):List.take 3 (x.cells++r)=x.cells:=by rw[←x.len,wc]
theorem PState.dropA (x:PState) (r:List AVal):List.drop 3 (x.cells++r)=r:=by rw[←x.len,wd]
theorem PState.get_name (x:PState):x.cells[0]? =some (.str x.name):=by
 unfold PState.cells
 rfl
theorem PState.get_eqs (x:PState):x.cells[1]? =some (.slice (x.eqs.map PEq.cells) .free):=by
 unfold PState.cells
 rfl
theorem PState.get_ways (x:PState):x.cells[2]? =some (.slice (x.ways.map PWay.cells) .free):=by
 unfold PState.cells
 rfl
structure PItem where
 eq:PEq
 states:List PState
def PItem.cells (x:PItem):List AVal:=x.eq.cells++([.slice (x.states.map PState.cells) .free])
def PItem.Small (x:PItem):Prop:=x.eq.Small∧x.states.length≤qa9∧(∀y∈x.states,PState.Small y)
theorem PItem.ok (x:PItem):CellsOk 7 x.cells:=CellsOk.append (x.eq.ok) ((⟨rfl,rfl,rfl,rfl,rfl⟩:CellsOk 1 [.slice (x.states.map PState.cells) .free]))
theorem PItem.len (x:PItem):x.cells.length=7:=x.ok.len
theorem PItem.ones (x:PItem):x.cells.all oneA=true:=x.ok.one
theorem PItem.pures (x:PItem):x.cells.all qaq=true:=x.ok.pure
theorem PItem.strip (x:PItem):x.cells.map qas=x.cells:=x.ok.strip
theorem PItem.norefs (x:PItem):qaf x.cells=[]:=x.ok.refs
theorem PItem.take (x:PItem):List.take 7 x.cells=x.cells:=by rw[wa];rw[x.len];exact we _
theorem PItem.drop (x:PItem):List.drop 7 x.cells=[]:=by rw[←x.len,wb]
theorem PItem.takeA (x:PItem) (r:List AVal):List.take 7 (x.cells++r)=x.cells:=by rw[←x.len,wc]
theorem PItem.dropA (x:PItem) (r:List AVal):List.drop 7 (x.cells++r)=r:=by rw[←x.len,wd]
theorem PItem.sub_eq (x:PItem):List.take 6 (List.drop 0 x.cells)=x.eq.cells:=by
 unfold PItem.cells
 rw[wh];exact x.eq.takeA _
theorem PItem.sub0_eq (x:PItem):List.take 6 x.cells=x.eq.cells:=by
 unfold PItem.cells
 exact x.eq.takeA _
theorem PItem.get_states (x:PItem):x.cells[6]? =some (.slice (x.states.map PState.cells) .free):=by
 unfold PItem.cells
 simp[wg,x.eq.len]
structure PEnum where
 name:Str
 cons:List Str
def PEnum.cells (x:PEnum):List AVal:=[.str x.name]++([qao x.cons])
def PEnum.Small (x:PEnum):Prop:=x.name.length≤qa9∧qdp x.cons
theorem PEnum.ok (x:PEnum):CellsOk 2 x.cells:=CellsOk.append ((show CellsOk 1 [.str x.name]from⟨rfl,rfl,rfl,rfl,rfl⟩)) ((⟨rfl,rfl,rfl,rfl,rfl⟩:CellsOk 1 [qao x.cons]))
theorem PEnum.len (x:PEnum):x.cells.length=2:=x.ok.len
theorem PEnum.ones (x:PEnum):x.cells.all oneA=true:=x.ok.one
theorem PEnum.pures (x:PEnum):x.cells.all qaq=true:=x.ok.pure
theorem PEnum.strip (x:PEnum):x.cells.map qas=x.cells:=x.ok.strip
theorem PEnum.norefs (x:PEnum):qaf x.cells=[]:=x.ok.refs
theorem PEnum.take (x:PEnum):List.take 2 x.cells=x.cells:=by rw[wa];rw[x.len];exact we _
theorem PEnum.drop (x:PEnum):List.drop 2 x.cells=[]:=by rw[←x.len,wb]
theorem PEnum.takeA (x:PEnum) (r:List AVal):List.take 2 (x.cells++r)=x.cells:=by rw[←x.len,wc]
theorem PEnum.dropA (x:PEnum) (r:List AVal):List.drop 2 (x.cells++r)=r:=by rw[←x.len,wd]
theorem PEnum.get_name (x:PEnum):x.cells[0]? =some (.str x.name):=by
 unfold PEnum.cells
 rfl
theorem PEnum.get_cons (x:PEnum):x.cells[1]? =some (qao x.cons):=by
 unfold PEnum.cells
 rfl
structure PNode where
 name:Str
 funs:List Str
 ins:List Str
 outs:List Str
 items:List PItem
def PNode.cells (x:PNode):List AVal:=[.str x.name]++([qao x.funs]++([qao x.ins]++([qao x.outs]++([.slice (x.items.map PItem.cells) .free]))))
def PNode.Small (x:PNode):Prop:=x.name.length≤qa9∧qdp x.funs∧qdp x.ins∧qdp x.outs∧x.items.length≤qa9∧(∀y∈x.items,PItem.Small y)
theorem PNode.ok (x:PNode):CellsOk 5 x.cells:=CellsOk.append ((show CellsOk 1 [.str x.name]from⟨rfl,rfl,rfl,rfl,rfl⟩)) (CellsOk.append ((show CellsOk 1 [qao x.funs]from⟨rfl,rfl,rfl,rfl,rfl⟩)) (CellsOk.append ((show CellsOk 1 [qao x.ins]from⟨rfl,rfl,rfl,rfl,rfl⟩)) (CellsOk.append ((show CellsOk 1 [qao x.outs]from⟨rfl,rfl,rfl,rfl,rfl⟩)) ((⟨rfl,rfl,rfl,rfl,rfl⟩:CellsOk 1 [.slice (x.items.map PItem.cells) .free])))))
theorem PNode.len (x:PNode):x.cells.length=5:=x.ok.len
theorem PNode.ones (x:PNode):x.cells.all oneA=true:=x.ok.one
theorem PNode.pures (x:PNode):x.cells.all qaq=true:=x.ok.pure
theorem PNode.strip (x:PNode):x.cells.map qas=x.cells:=x.ok.strip
theorem PNode.norefs (x:PNode):qaf x.cells=[]:=x.ok.refs
theorem PNode.take (x:PNode):List.take 5 x.cells=x.cells:=by rw[wa];rw[x.len];exact we _
theorem PNode.drop (x:PNode):List.drop 5 x.cells=[]:=by rw[←x.len,wb]
theorem PNode.takeA (x:PNode) (r:List AVal):List.take 5 (x.cells++r)=x.cells:=by rw[←x.len,wc]
theorem PNode.dropA (x:PNode) (r:List AVal):List.drop 5 (x.cells++r)=r:=by rw[←x.len,wd]
theorem PNode.get_name (x:PNode):x.cells[0]? =some (.str x.name):=by
 unfold PNode.cells
 rfl
theorem PNode.get_funs (x:PNode):x.cells[1]? =some (qao x.funs):=by
 unfold PNode.cells
 rfl
theorem PNode.get_ins (x:PNode):x.cells[2]? =some (qao x.ins):=by
 unfold PNode.cells
 rfl
theorem PNode.get_outs (x:PNode):x.cells[3]? =some (qao x.outs):=by
 unfold PNode.cells
 rfl
theorem PNode.get_items (x:PNode):x.cells[4]? =some (.slice (x.items.map PItem.cells) .free):=by
 unfold PNode.cells
 rfl
structure PProg where
 enums:List PEnum
 nodes:List PNode
def PProg.cells (x:PProg):List AVal:=[.slice (x.enums.map PEnum.cells) .free]++([.slice (x.nodes.map PNode.cells) .free])
def PProg.Small (x:PProg):Prop:=x.enums.length≤qa9∧(∀y∈x.enums,PEnum.Small y)∧x.nodes.length≤qa9∧(∀y∈x.nodes,PNode.Small y)
theorem PProg.ok (x:PProg):CellsOk 2 x.cells:=CellsOk.append ((show CellsOk 1 [.slice (x.enums.map PEnum.cells) .free]from⟨rfl,rfl,rfl,rfl,rfl⟩)) ((⟨rfl,rfl,rfl,rfl,rfl⟩:CellsOk 1 [.slice (x.nodes.map PNode.cells) .free]))
theorem PProg.len (x:PProg):x.cells.length=2:=x.ok.len
theorem PProg.ones (x:PProg):x.cells.all oneA=true:=x.ok.one
theorem PProg.pures (x:PProg):x.cells.all qaq=true:=x.ok.pure
theorem PProg.strip (x:PProg):x.cells.map qas=x.cells:=x.ok.strip
theorem PProg.norefs (x:PProg):qaf x.cells=[]:=x.ok.refs
theorem PProg.take (x:PProg):List.take 2 x.cells=x.cells:=by rw[wa];rw[x.len];exact we _
theorem PProg.drop (x:PProg):List.drop 2 x.cells=[]:=by rw[←x.len,wb]
theorem PProg.takeA (x:PProg) (r:List AVal):List.take 2 (x.cells++r)=x.cells:=by rw[←x.len,wc]
theorem PProg.dropA (x:PProg) (r:List AVal):List.drop 2 (x.cells++r)=r:=by rw[←x.len,wd]
theorem PProg.get_enums (x:PProg):x.cells[0]? =some (.slice (x.enums.map PEnum.cells) .free):=by
 unfold PProg.cells
 rfl
theorem PProg.get_nodes (x:PProg):x.cells[1]? =some (.slice (x.nodes.map PNode.cells) .free):=by
 unfold PProg.cells
 rfl
structure PTok where
 sort:Int
 text:Str
 n:Int
 line:Int
 col:Int
def PTok.cells (x:PTok):List AVal:=[.int .i64 x.sort]++([.str x.text]++([.int .i64 x.n]++([.int .i64 x.line]++([.int .i64 x.col]))))
def PTok.Small (x:PTok):Prop:=x.text.length≤qa9
theorem PTok.ok (x:PTok):CellsOk 5 x.cells:=CellsOk.append ((show CellsOk 1 [.int .i64 x.sort]from⟨rfl,rfl,rfl,rfl,rfl⟩)) (CellsOk.append ((show CellsOk 1 [.str x.text]from⟨rfl,rfl,rfl,rfl,rfl⟩)) (CellsOk.append ((show CellsOk 1 [.int .i64 x.n]from⟨rfl,rfl,rfl,rfl,rfl⟩)) (CellsOk.append ((show CellsOk 1 [.int .i64 x.line]from⟨rfl,rfl,rfl,rfl,rfl⟩)) ((⟨rfl,rfl,rfl,rfl,rfl⟩:CellsOk 1 [.int .i64 x.col])))))
theorem PTok.len (x:PTok):x.cells.length=5:=x.ok.len
theorem PTok.ones (x:PTok):x.cells.all oneA=true:=x.ok.one
theorem PTok.pures (x:PTok):x.cells.all qaq=true:=x.ok.pure
theorem PTok.strip (x:PTok):x.cells.map qas=x.cells:=x.ok.strip
theorem PTok.norefs (x:PTok):qaf x.cells=[]:=x.ok.refs
theorem PTok.take (x:PTok):List.take 5 x.cells=x.cells:=by rw[wa];rw[x.len];exact we _
theorem PTok.drop (x:PTok):List.drop 5 x.cells=[]:=by rw[←x.len,wb]
theorem PTok.takeA (x:PTok) (r:List AVal):List.take 5 (x.cells++r)=x.cells:=by rw[←x.len,wc]
theorem PTok.dropA (x:PTok) (r:List AVal):List.drop 5 (x.cells++r)=r:=by rw[←x.len,wd]
theorem PTok.get_sort (x:PTok):x.cells[0]? =some (.int .i64 x.sort):=by
 unfold PTok.cells
 rfl
theorem PTok.get_text (x:PTok):x.cells[1]? =some (.str x.text):=by
 unfold PTok.cells
 rfl
theorem PTok.get_n (x:PTok):x.cells[2]? =some (.int .i64 x.n):=by
 unfold PTok.cells
 rfl
theorem PTok.get_line (x:PTok):x.cells[3]? =some (.int .i64 x.line):=by
 unfold PTok.cells
 rfl
theorem PTok.get_col (x:PTok):x.cells[4]? =some (.int .i64 x.col):=by
 unfold PTok.cells
 rfl
structure PFault where
 err:Int
 a:Int
 b:Int
def PFault.cells (x:PFault):List AVal:=[.int .i64 x.err]++([.int .i64 x.a]++([.int .i64 x.b]))
def PFault.Small (x:PFault):Prop:=x=x
theorem PFault.ok (x:PFault):CellsOk 3 x.cells:=CellsOk.append ((show CellsOk 1 [.int .i64 x.err]from⟨rfl,rfl,rfl,rfl,rfl⟩)) (CellsOk.append ((show CellsOk 1 [.int .i64 x.a]from⟨rfl,rfl,rfl,rfl,rfl⟩)) ((⟨rfl,rfl,rfl,rfl,rfl⟩:CellsOk 1 [.int .i64 x.b])))
theorem PFault.len (x:PFault):x.cells.length=3:=x.ok.len
theorem PFault.ones (x:PFault):x.cells.all oneA=true:=x.ok.one
theorem PFault.pures (x:PFault):x.cells.all qaq=true:=x.ok.pure
theorem PFault.strip (x:PFault):x.cells.map qas=x.cells:=x.ok.strip
theorem PFault.norefs (x:PFault):qaf x.cells=[]:=x.ok.refs
theorem PFault.take (x:PFault):List.take 3 x.cells=x.cells:=by rw[wa];rw[x.len];exact we _
theorem PFault.drop (x:PFault):List.drop 3 x.cells=[]:=by rw[←x.len,wb]
theorem PFault.takeA (x:PFault) (r:List AVal):List.take 3 (x.cells++r)=x.cells:=by rw[←x.len,wc]
theorem PFault.dropA (x:PFault) (r:List AVal):List.drop 3 (x.cells++r)=r:=by rw[←x.len,wd]
theorem PFault.get_err (x:PFault):x.cells[0]? =some (.int .i64 x.err):=by
 unfold PFault.cells
 rfl
theorem PFault.get_a (x:PFault):x.cells[1]? =some (.int .i64 x.a):=by
 unfold PFault.cells
 rfl
theorem PFault.get_b (x:PFault):x.cells[2]? =some (.int .i64 x.b):=by
 unfold PFault.cells
 rfl
abbrev ty:=Ji (Ji (Ji (Ji (Ji (Ji @PEq.len (Ji @PEq.ones @PEq.pures)) (Ji @PEq.strip (Ji @PEq.norefs @PEq.take))) (Ji (Ji @PEq.drop (Ji @PEq.takeA @PEq.dropA)) (Ji (Ji @PEq.get_names @PEq.sub_e) (Ji @PWay.len @PWay.ones)))) (Ji (Ji (Ji @PWay.pures (Ji @PWay.strip @PWay.norefs)) (Ji (Ji @PWay.take @PWay.drop) (Ji @PWay.takeA @PWay.dropA))) (Ji (Ji @PWay.sub_cond (Ji @PWay.sub0_cond @PWay.get_to)) (Ji (Ji @PState.len @PState.ones) (Ji @PState.pures @PState.strip))))) (Ji (Ji (Ji (Ji @PState.norefs (Ji @PState.take @PState.drop)) (Ji @PState.takeA (Ji @PState.dropA @PState.get_name))) (Ji (Ji @PState.get_eqs (Ji @PState.get_ways @PItem.len)) (Ji (Ji @PItem.ones @PItem.pures) (Ji @PItem.strip @PItem.norefs)))) (Ji (Ji (Ji @PItem.take (Ji @PItem.drop @PItem.takeA)) (Ji (Ji @PItem.dropA @PItem.sub_eq) (Ji @PItem.sub0_eq @PItem.get_states))) (Ji (Ji @PEnum.len (Ji @PEnum.ones @PEnum.pures)) (Ji (Ji @PEnum.strip @PEnum.norefs) (Ji @PEnum.take @PEnum.drop)))))) (Ji (Ji (Ji (Ji (Ji @PEnum.takeA (Ji @PEnum.dropA @PEnum.get_name)) (Ji @PEnum.get_cons (Ji @PNode.len @PNode.ones))) (Ji (Ji @PNode.pures (Ji @PNode.strip @PNode.norefs)) (Ji (Ji @PNode.take @PNode.drop) (Ji @PNode.takeA @PNode.dropA)))) (Ji (Ji (Ji @PNode.get_name (Ji @PNode.get_funs @PNode.get_ins)) (Ji (Ji @PNode.get_outs @PNode.get_items) (Ji @PProg.len @PProg.ones))) (Ji (Ji @PProg.pures (Ji @PProg.strip @PProg.norefs)) (Ji (Ji @PProg.take @PProg.drop) (Ji @PProg.takeA @PProg.dropA))))) (Ji (Ji (Ji (Ji @PProg.get_enums (Ji @PProg.get_nodes @PTok.len)) (Ji (Ji @PTok.ones @PTok.pures) (Ji @PTok.strip @PTok.norefs))) (Ji (Ji @PTok.take (Ji @PTok.drop @PTok.takeA)) (Ji (Ji @PTok.dropA @PTok.get_sort) (Ji @PTok.get_text @PTok.get_n)))) (Ji (Ji (Ji @PTok.get_line (Ji @PTok.get_col @PFault.len)) (Ji (Ji @PFault.ones @PFault.pures) (Ji @PFault.strip @PFault.norefs))) (Ji (Ji @PFault.take (Ji @PFault.drop @PFault.takeA)) (Ji (Ji @PFault.dropA @PFault.get_err) (Ji @PFault.get_a @PFault.get_b))))))
end Go.Ab
namespace Go.Ab
def PEq.bulk (x:PEq):Nat:=(qb6 (fun s:Str=>s.length+1) x.names+1)+x.e.bulk
def PWay.bulk (x:PWay):Nat:=x.cond.bulk+(x.to.length+1)
def PState.bulk (x:PState):Nat:=(x.name.length+1)+(qb6 PEq.bulk x.eqs+1)+(qb6 PWay.bulk x.ways+1)
def PItem.bulk (x:PItem):Nat:=x.eq.bulk+(qb6 PState.bulk x.states+1)
def PEnum.bulk (x:PEnum):Nat:=(x.name.length+1)+(qb6 (fun s:Str=>s.length+1) x.cons+1)
def PNode.bulk (x:PNode):Nat:=(x.name.length+1)+(qb6 (fun s:Str=>s.length+1) x.funs+1)+(qb6 (fun s:Str=>s.length+1) x.ins+1)+(qb6 (fun s:Str=>s.length+1) x.outs+1)+(qb6 PItem.bulk x.items+1)
def PProg.bulk (x:PProg):Nat:=(qb6 PEnum.bulk x.enums+1)+(qb6 PNode.bulk x.nodes+1)
def PTok.bulk (x:PTok):Nat:=1+(x.text.length+1)+1+1+1
def PFault.bulk (_x:PFault):Nat:=1+1+1
section
variable {H:Type} {enc:TypeId×Value→H} {P:Program} {w:World} {F:Nat→Option Obj} {B:DataW H→Nat} {BA:List (DataW H)→Nat}
end
end Go.Ab
namespace Go.Ab
open Go Go.Proofs
def extS (T:Str) (R:AVal):Ext:=fun f=>if f=32 then some (fun a h=>match a,h with|[.str s],[]=>if(s==T)=true then some (.ret R .same)else none|_,_=>none)else ext0 f
noncomputable def extR (T:Str) (R:AVal) (k:Nat):Ext:=fun f=>if f=21 then some (fnF PP cmp0 (evK PP cmp0 (extS T R) k) (qa8 k) 21)else extS T R f
section
variable {T:Str} {R:AVal} (hS:C 32 [.str T] []=some (.ret R .same))
include hS
theorem scan_at {a:List AVal} {h:qaa} {r:CR} {g:List AVal→qaa→Option CR} (hg:extS T R 32=some g) (e:g a h=some r):C 32 a h=some r:=by
 have:g=fun a h=>match a,h with|[.str s],[]=>if(s==T)=true then some (.ret R .same)else none|_,_=>none:=by
  unfold extS at hg
  rw[if_pos rfl]at hg
  exact(Option.some.inj hg).symm
 subst this
 simp only at e
 split at e
 ·split at e
  ·rename_i hs
   cases e
   rw[eq_of_beq hs];exact hS
  ·cases e
 ·cases e
theorem S_up:∀n,qbt (evN PP cmp0 (extS T R) n) C
 |0=>fun f a h r e=>by cases e
 |n+1=>fun f a h r e=>by
  have ih:=S_up n
  by_cases h1:f=32
  ·subst h1
   unfold evN at e
   split at e
   ·rename_i g hg;exact scan_at hS hg e
   ·rename_i hg
    unfold extS at hg
    rw[if_pos rfl]at hg
    cases hg
  ·have e1:extS T R f=ext0 f:=by unfold extS;rw[if_neg h1]
   unfold evN at e
   rw[e1]at e
   split at e
   ·rename_i g hg
    unfold C;rw[qjh hg];exact e
   ·rename_i hg
    unfold C;rw[evC_eq hg]
    exact qin ih (qis n) _ _ _ _ e
theorem R_up (k:Nat):∀n,qbt (evN PP cmp0 (extR T R k) n) D
 |0=>fun f a h r e=>by cases e
 |n+1=>fun f a h r e=>by
  have ih:=R_up k n
  have hC:qbt (evK PP cmp0 (extS T R) k) C:=by rw[qi5];exact S_up hS k
  have hl:LpLe (qa8 k) lpC:=qis k
  by_cases h1:f=21
  ·subst h1
   unfold evN at e
   have:extR T R k 21=some (fnF PP cmp0 (evK PP cmp0 (extS T R) k) (qa8 k) 21):=rfl
   rw[this]at e
   unfold D;rw[qjh (show ext1 21=some (fnF PP cmp0 C lpC 21)from rfl)]
   exact fnF_le hC hl _ _ _ _ e
  ·skip
   have e1:extR T R k f=extS T R f:=by unfold extR;rw[if_neg h1]
   by_cases h8:f=32
   ·subst h8
    unfold evN at e
    rw[e1]at e
    split at e
    ·rename_i g hg;exact up (scan_at hS hg e)
    ·rename_i hg
     unfold extS at hg
     rw[if_pos rfl]at hg
     cases hg
   ·have e2:extS T R f=ext0 f:=by unfold extS;rw[if_neg h8]
    by_cases h9:bigF.contains f=true
    ·exfalso
     have h5:ext0 f=some (fun _ _=>none):=by unfold ext0;rw[if_pos h9]
     unfold evN at e;rw[e1,e2,h5]at e;cases e
    have e3:ext1 f=ext0 f:=by unfold ext1;rw[if_neg h1,if_neg h9]
    unfold evN at e
    rw[e1,e2]at e
    split at e
    ·rename_i g hg
     unfold D;rw[qjh (e3.trans hg)];exact e
    ·rename_i hg
     unfold D;rw[evC_eq (e3.trans hg)]
     exact qin ih (qis n) _ _ _ _ e
theorem run_ret {n:Nat} {f:FuncId} {a:List AVal} {v:AVal} (ha:qaf a=[]) (hv:refs v=[]) (e:evK PP cmp0 (extR T R n) n f a []=some (.ret v .same)):Ret D f a v:=by
 rw[qi5]at e
 exact Ret.mk ha hv (R_up hS n n _ _ _ _ e)
end
theorem runC {n:Nat} {f:FuncId} {a:List AVal} {v:AVal} (e:evK PP cmp0 ext0 n f a []=some (.ret v .same)):C f a []=some (.ret v .same):=by
 rw[qi5]at e;exact C_of e
theorem big_ret {n:Nat} {f:FuncId} {a:List AVal} {v:AVal} (hf:bigF.contains f=true) (h1:f≠21) (ha:qaf a=[]) (hv:refs v=[]) (e:(evK PP cmp1 extM n f a []).map (frzR [])=some (.ret v .same)):Ret D f a v:=by
 rw[qi5]at e
 cases hr:evN PP cmp1 extM n f a []with
 |none=>rw[hr]at e;cases e
 |some r=>
  rw[hr]at e
  have h0:=D_big hf h1 hr
  rw[show frzR [] r= .ret v .same from Option.some.inj e]at h0
  exact Ret.mk ha hv h0
end Go.Ab
namespace Go.Ab
open Go
def l8T0:Str:=[110,111,100,101,32,102,40,120,41,32,61,32,40,121,41,32,119,104,101,114,101,32,121,32,61,32,120,32,102,98,121,32,120,59,32,101,110,100,32,110,111,100,101,32,103,40,120,41,32,61,32,40,121,41,32,119,104,101,114,101,32,121,32,61,32,120,32,43,32,49,32,61,32,102,40,50,41,59,32,101,110,100]
def l8R0:AVal:= .tuple [.slice [[.int .i64 5,.str [110,111,100,101],.int .i64 0,.int .i64 1,.int .i64 1],[.int .i64 1,.str [102],.int .i64 0,.int .i64 1,.int .i64 6],[.int .i64 4,.str [40],.int .i64 0,.int .i64 1,.int .i64 7],[.int .i64 1,.str [120],.int .i64 0,.int .i64 1,.int .i64 8],[.int .i64 4,.str [41],.int .i64 0,.int .i64 1,.int .i64 9],[.int .i64 4,.str [61],.int .i64 0,.int .i64 1,.int .i64 11],[.int .i64 4,.str [40],.int .i64 0,.int .i64 1,.int .i64 13],[.int .i64 1,.str [121],.int .i64 0,.int .i64 1,.int .i64 14],[.int .i64 4,.str [41],.int .i64 0,.int .i64 1,.int .i64 15],[.int .i64 5,.str [119,104,101,114,101],.int .i64 0,.int .i64 1,.int .i64 17],[.int .i64 1,.str [121],.int .i64 0,.int .i64 1,.int .i64 23],[.int .i64 4,.str [61],.int .i64 0,.int .i64 1,.int .i64 25],[.int .i64 1,.str [120],.int .i64 0,.int .i64 1,.int .i64 27],[.int .i64 5,.str [102,98,121],.int .i64 0,.int .i64 1,.int .i64 29],[.int .i64 1,.str [120],.int .i64 0,.int .i64 1,.int .i64 33],[.int .i64 4,.str [59],.int .i64 0,.int .i64 1,.int .i64 34],[.int .i64 5,.str [101,110,100],.int .i64 0,.int .i64 1,.int .i64 36],[.int .i64 5,.str [110,111,100,101],.int .i64 0,.int .i64 1,.int .i64 40],[.int .i64 1,.str [103],.int .i64 0,.int .i64 1,.int .i64 45],[.int .i64 4,.str [40],.int .i64 0,.int .i64 1,.int .i64 46],[.int .i64 1,.str [120],.int .i64 0,.int .i64 1,.int .i64 47],[.int .i64 4,.str [41],.int .i64 0,.int .i64 1,.int .i64 48],[.int .i64 4,.str [61],.int .i64 0,.int .i64 1,.int .i64 50],[.int .i64 4,.str [40],.int .i64 0,.int .i64 1,.int .i64 52],[.int .i64 1,.str [121],.int .i64 0,.int .i64 1,.int .i64 53],[.int .i64 4,.str [41],.int .i64 0,.int .i64 1,.int .i64 54],[.int .i64 5,.str [119,104,101,114,101],.int .i64 0,.int .i64 1,.int .i64 56],[.int .i64 1,.str [121],.int .i64 0,.int .i64 1,.int .i64 62],[.int .i64 4,.str [61],.int .i64 0,.int .i64 1,.int .i64 64],[.int .i64 1,.str [120],.int .i64 0,.int .i64 1,.int .i64 66],[.int .i64 4,.str [43],.int .i64 0,.int .i64 1,.int .i64 68],[.int .i64 3,.str [49],.int .i64 1,.int .i64 1,.int .i64 70],[.int .i64 4,.str [61],.int .i64 0,.int .i64 1,.int .i64 72],[.int .i64 1,.str [102],.int .i64 0,.int .i64 1,.int .i64 74],[.int .i64 4,.str [40],.int .i64 0,.int .i64 1,.int .i64 75],[.int .i64 3,.str [50],.int .i64 2,.int .i64 1,.int .i64 76],[.int .i64 4,.str [41],.int .i64 0,.int .i64 1,.int .i64 77],[.int .i64 4,.str [59],.int .i64 0,.int .i64 1,.int .i64 78],[.int .i64 5,.str [101,110,100],.int .i64 0,.int .i64 1,.int .i64 80],[.int .i64 6,.str [],.int .i64 0,.int .i64 1,.int .i64 83]] .free,.agg [.int .i64 0,.int .i64 0,.int .i64 0]]
theorem l8_scan0:C 32 [.str l8T0] []=some (.ret l8R0 .same):=runC (n:=200) (by kernel_rfl)
end Go.Ab
namespace Go.Ab
open Go
def l8v (s:Str):PExpr:= .mk 4 s 0 [] []
def l8n (n:Int):PExpr:= .mk 1 [] n [] []
def l8q (y:Str) (e:PExpr):PItem:=⟨⟨[y],e⟩,[]⟩
def l8P:PProg:=⟨[],[⟨[102],[],[[120]],[[121]],[l8q [121] (.mk 8 [] 0 [] [l8v [120],l8v [120]])]⟩,⟨[103],[],[[120]],[[121]],[l8q [121] (.mk 6 [61] 0 [] [.mk 6 [43] 0 [] [l8v [120],l8n 1],.mk 14 [102] 0 [] [l8n 2]])]⟩]⟩
def l8Z:AVal:= .agg [.int .i64 0,.int .i64 0,.int .i64 0]
theorem l8_parse:Ret D 14 [.str l8T0] (.tuple [.agg l8P.cells,l8Z]):=run_ret l8_scan0 (n:=60) (by rfl) (by rfl) (by kernel_rfl)
end Go.Ab
namespace Go.Ab
open Go
def l8s (l:List (List AVal)):AVal:= .slice l .free
def l8i (n:Int):AVal:= .int .i64 n
def l8nm (s:Str) (n:Int):List AVal:=[.str s,l8i n,l8s []]
def l8L:AVal:=l8s [[l8s [],l8s [[l8i (-1)]],l8s [[l8i (-1)]],l8s [l8nm [120] (-1),l8nm [121] (-1)]],[l8s [],l8s [[l8i 1]],l8s [[l8i 2]],l8s [l8nm [120] 1,l8nm [121] 2]]]
theorem l8_infer:Ret D 15 [.agg l8P.cells] (.tuple [l8L,l8Z]):=big_ret (n:=100) (by rfl) (by decide) (by rfl) (by rfl) (by kernel_rfl)
end Go.Ab
