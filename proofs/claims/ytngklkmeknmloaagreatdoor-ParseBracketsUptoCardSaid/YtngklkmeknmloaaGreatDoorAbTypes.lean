/- Which programs are the same: plain functions. -/
import Derived.Test.YtngklkmeknmloaaGreatDoorAbSim
import Derived.Test.YtngklkmeknmloaaGreatDoorAbEqs
import Derived.Test.YtngklkmeknmloaaGreatDoorAbSize
set_option linter.unusedSimpArgs false
set_option linter.unusedVariables false
set_option maxRecDepth 100000
set_option maxHeartbeats 4000000
open List renaming take_of_length_le→wa,drop_length→wb,take_left→wc,drop_left→wd,getElem?_append→wg,drop_zero→wh
open Nat renaming le_refl→we
namespace Go.Ab
structure PEq where
 names:List Str
 e:PExpr
def PEq.cells (x:PEq):List AVal:=[qaf x.names]++(x.e.cells)
def PEq.Small (x:PEq):Prop:=qek x.names∧x.e.Small
theorem PEq.ok (x:PEq):CellsOk 6 x.cells:=CellsOk.append ((show CellsOk 1 [qaf x.names]from⟨rfl,rfl,rfl,rfl,rfl⟩)) (x.e.ok)
theorem PEq.len (x:PEq):x.cells.length=6:=x.ok.len
theorem PEq.ones (x:PEq):x.cells.all oneA=true:=x.ok.one
theorem PEq.pures (x:PEq):x.cells.all qcl=true:=x.ok.pure
theorem PEq.strip (x:PEq):x.cells.map qbm=x.cells:=x.ok.strip
theorem PEq.norefs (x:PEq):qad x.cells=[]:=x.ok.refs
theorem PEq.take (x:PEq):List.take 6 x.cells=x.cells:=by rw[wa];rw[x.len];exact we _
theorem PEq.drop (x:PEq):List.drop 6 x.cells=[]:=by rw[←x.len,wb]
theorem PEq.takeA (x:PEq) (r:List AVal):List.take 6 (x.cells++r)=x.cells:=by rw[←x.len,wc]
theorem PEq.dropA (x:PEq) (r:List AVal):List.drop 6 (x.cells++r)=r:=by rw[←x.len,wd]
theorem PEq.get_names (x:PEq):x.cells[0]? =some (qaf x.names):=by
 unfold PEq.cells
 rfl
theorem PEq.sub_e (x:PEq):List.take 5 (List.drop 1 x.cells)=x.e.cells:=by
 unfold PEq.cells
 exact x.e.take
structure PWay where
 cond:PExpr
 to:Str
def PWay.cells (x:PWay):List AVal:=x.cond.cells++([.str x.to])
def PWay.Small (x:PWay):Prop:=x.cond.Small∧x.to.length≤qac
theorem PWay.ok (x:PWay):CellsOk 6 x.cells:=CellsOk.append (x.cond.ok) ((⟨rfl,rfl,rfl,rfl,rfl⟩:CellsOk 1 [.str x.to]))
theorem PWay.len (x:PWay):x.cells.length=6:=x.ok.len
theorem PWay.ones (x:PWay):x.cells.all oneA=true:=x.ok.one
theorem PWay.pures (x:PWay):x.cells.all qcl=true:=x.ok.pure
theorem PWay.strip (x:PWay):x.cells.map qbm=x.cells:=x.ok.strip
theorem PWay.norefs (x:PWay):qad x.cells=[]:=x.ok.refs
theorem PWay.take (x:PWay):List.take 6 x.cells=x.cells:=by rw[wa];rw[x.len];exact we _
theorem PWay.drop (x:PWay):List.drop 6 x.cells=[]:=by rw[←x.len,wb]
theorem PWay.takeA (x:PWay) (r:List AVal):List.take 6 (x.cells++r)=x.cells:=by rw[←x.len,wc]
theorem PWay.dropA (x:PWay) (r:List AVal):List.drop 6 (x.cells++r)=r:=by rw[←x.len,wd]
theorem PWay.sub_cond (x:PWay):List.take 5 (List.drop 0 x.cells)=x.cond.cells:=by
 unfold PWay.cells
 rw[wh];exact x.cond.takeA _
theorem PWay.sub0_cond (x:PWay):List.take 5 x.cells=x.cond.cells:=by
 unfold PWay.cells
 exact x.cond.takeA _
theorem PWay.get_to (x:PWay):x.cells[5]? =some (.str x.to):=by
 unfold PWay.cells
 simp[wg,x.cond.len]
structure PState where
 name:Str
 eqs:List PEq
 ways:List PWay
def PState.cells (x:PState):List AVal:=[.str x.name]++([.slice (x.eqs.map PEq.cells) .free]++([.slice (x.ways.map PWay.cells) .free]))
def PState.Small (x:PState):Prop:=x.name.length≤qac∧x.eqs.length≤qac∧(∀y∈x.eqs,PEq.Small y)∧x.ways.length≤qac∧(∀y∈x.ways,PWay.Small y)
theorem PState.ok (x:PState):CellsOk 3 x.cells:=CellsOk.append ((show CellsOk 1 [.str x.name]from⟨rfl,rfl,rfl,rfl,rfl⟩)) (CellsOk.append ((show CellsOk 1 [.slice (x.eqs.map PEq.cells) .free]from⟨rfl,rfl,rfl,rfl,rfl⟩)) ((⟨rfl,rfl,rfl,rfl,rfl⟩:CellsOk 1 [.slice (x.ways.map PWay.cells) .free])))
theorem PState.len (x:PState):x.cells.length=3:=x.ok.len
theorem PState.ones (x:PState):x.cells.all oneA=true:=x.ok.one
theorem PState.pures (x:PState):x.cells.all qcl=true:=x.ok.pure
theorem PState.strip (x:PState):x.cells.map qbm=x.cells:=x.ok.strip
theorem PState.norefs (x:PState):qad x.cells=[]:=x.ok.refs
theorem PState.take (x:PState):List.take 3 x.cells=x.cells:=by rw[wa];rw[x.len];exact we _
theorem PState.drop (x:PState):List.drop 3 x.cells=[]:=by rw[←x.len,wb]
theorem PState.takeA (x:PState) (r:List AVal):List.take 3 (x.cells++r)=x.cells:=by rw[←x.len,wc]
theorem PState.dropA (x:PState) (r:List AVal):List.drop 3 (x.cells++r)=r:=by rw[←x.len,wd]
theorem PState.get_name (x:PState):x.cells[0]? =some (.str x.name):=by
 unfold PState.cells
 rfl
theorem PState.get_eqs (x:PState):x.cells[1]? =some (.slice (x.eqs.map PEq.cells) .free):=by
 unfold PState.cells
 rfl
theorem PState.get_ways (x:PState):x.cells[2]? =some (.slice (x.ways.map PWay.cells) .free):=by
 unfold PState.cells
 rfl
structure PItem where
 eq:PEq
 states:List PState
def PItem.cells (x:PItem):List AVal:=x.eq.cells++([.slice (x.states.map PState.cells) .free])
def PItem.Small (x:PItem):Prop:=x.eq.Small∧x.states.length≤qac∧(∀y∈x.states,PState.Small y)
theorem PItem.ok (x:PItem):CellsOk 7 x.cells:=CellsOk.append (x.eq.ok) ((⟨rfl,rfl,rfl,rfl,rfl⟩:CellsOk 1 [.slice (x.states.map PState.cells) .free]))
theorem PItem.len (x:PItem):x.cells.length=7:=x.ok.len
theorem PItem.ones (x:PItem):x.cells.all oneA=true:=x.ok.one
theorem PItem.pures (x:PItem):x.cells.all qcl=true:=x.ok.pure
theorem PItem.strip (x:PItem):x.cells.map qbm=x.cells:=x.ok.strip
theorem PItem.norefs (x:PItem):qad x.cells=[]:=x.ok.refs
theorem PItem.take (x:PItem):List.take 7 x.cells=x.cells:=by rw[wa];rw[x.len];exact we _
theorem PItem.drop (x:PItem):List.drop 7 x.cells=[]:=by rw[←x.len,wb]
theorem PItem.takeA (x:PItem) (r:List AVal):List.take 7 (x.cells++r)=x.cells:=by rw[←x.len,wc]
theorem PItem.dropA (x:PItem) (r:List AVal):List.drop 7 (x.cells++r)=r:=by rw[←x.len,wd]
theorem PItem.sub_eq (x:PItem):List.take 6 (List.drop 0 x.cells)=x.eq.cells:=by
 unfold PItem.cells
 rw[wh];exact x.eq.takeA _
theorem PItem.sub0_eq (x:PItem):List.take 6 x.cells=x.eq.cells:=by
 unfold PItem.cells
 exact x.eq.takeA _
theorem PItem.get_states (x:PItem):x.cells[6]? =some (.slice (x.states.map PState.cells) .free):=by
 unfold PItem.cells
 simp[wg,x.eq.len]
structure PEnum where
 name:Str
 cons:List Str
def PEnum.cells (x:PEnum):List AVal:=[.str x.name]++([qaf x.cons])
def PEnum.Small (x:PEnum):Prop:=x.name.length≤qac∧qek x.cons
theorem PEnum.ok (x:PEnum):CellsOk 2 x.cells:=CellsOk.append ((show CellsOk 1 [.str x.name]from⟨rfl,rfl,rfl,rfl,rfl⟩)) ((⟨rfl,rfl,rfl,rfl,rfl⟩:CellsOk 1 [qaf x.cons]))
theorem PEnum.len (x:PEnum):x.cells.length=2:=x.ok.len
theorem PEnum.ones (x:PEnum):x.cells.all oneA=true:=x.ok.one
theorem PEnum.pures (x:PEnum):x.cells.all qcl=true:=x.ok.pure
theorem PEnum.strip (x:PEnum):x.cells.map qbm=x.cells:=x.ok.strip
theorem PEnum.norefs (x:PEnum):qad x.cells=[]:=x.ok.refs
theorem PEnum.take (x:PEnum):List.take 2 x.cells=x.cells:=by rw[wa];rw[x.len];exact we _
theorem PEnum.drop (x:PEnum):List.drop 2 x.cells=[]:=by rw[←x.len,wb]
theorem PEnum.takeA (x:PEnum) (r:List AVal):List.take 2 (x.cells++r)=x.cells:=by rw[←x.len,wc]
theorem PEnum.dropA (x:PEnum) (r:List AVal):List.drop 2 (x.cells++r)=r:=by rw[←x.len,wd]
theorem PEnum.get_name (x:PEnum):x.cells[0]? =some (.str x.name):=by
 unfold PEnum.cells
 rfl
theorem PEnum.get_cons (x:PEnum):x.cells[1]? =some (qaf x.cons):=by
 unfold PEnum.cells
 rfl
structure PNode where
 name:Str
 funs:List Str
 ins:List Str
 outs:List Str
 items:List PItem
def PNode.cells (x:PNode):List AVal:=[.str x.name]++([qaf x.funs]++([qaf x.ins]++([qaf x.outs]++([.slice (x.items.map PItem.cells) .free]))))
def PNode.Small (x:PNode):Prop:=x.name.length≤qac∧qek x.funs∧qek x.ins∧qek x.outs∧x.items.length≤qac∧(∀y∈x.items,PItem.Small y)
theorem PNode.ok (x:PNode):CellsOk 5 x.cells:=CellsOk.append ((show CellsOk 1 [.str x.name]from⟨rfl,rfl,rfl,rfl,rfl⟩)) (CellsOk.append ((show CellsOk 1 [qaf x.funs]from⟨rfl,rfl,rfl,rfl,rfl⟩)) (CellsOk.append ((show CellsOk 1 [qaf x.ins]from⟨rfl,rfl,rfl,rfl,rfl⟩)) (CellsOk.append ((show CellsOk 1 [qaf x.outs]from⟨rfl,rfl,rfl,rfl,rfl⟩)) ((⟨rfl,rfl,rfl,rfl,rfl⟩:CellsOk 1 [.slice (x.items.map PItem.cells) .free])))))
theorem PNode.len (x:PNode):x.cells.length=5:=x.ok.len
theorem PNode.ones (x:PNode):x.cells.all oneA=true:=x.ok.one
theorem PNode.pures (x:PNode):x.cells.all qcl=true:=x.ok.pure
theorem PNode.strip (x:PNode):x.cells.map qbm=x.cells:=x.ok.strip
theorem PNode.norefs (x:PNode):qad x.cells=[]:=x.ok.refs
theorem PNode.take (x:PNode):List.take 5 x.cells=x.cells:=by rw[wa];rw[x.len];exact we _
theorem PNode.drop (x:PNode):List.drop 5 x.cells=[]:=by rw[←x.len,wb]
theorem PNode.takeA (x:PNode) (r:List AVal):List.take 5 (x.cells++r)=x.cells:=by rw[←x.len,wc]
theorem PNode.dropA (x:PNode) (r:List AVal):List.drop 5 (x.cells++r)=r:=by rw[←x.len,wd]
theorem PNode.get_name (x:PNode):x.cells[0]? =some (.str x.name):=by
 unfold PNode.cells
 rfl
theorem PNode.get_funs (x:PNode):x.cells[1]? =some (qaf x.funs):=by
 unfold PNode.cells
 rfl
theorem PNode.get_ins (x:PNode):x.cells[2]? =some (qaf x.ins):=by
 unfold PNode.cells
 rfl
theorem PNode.get_outs (x:PNode):x.cells[3]? =some (qaf x.outs):=by
 unfold PNode.cells
 rfl
theorem PNode.get_items (x:PNode):x.cells[4]? =some (.slice (x.items.map PItem.cells) .free):=by
 unfold PNode.cells
 rfl
structure PProg where
 enums:List PEnum
 nodes:List PNode
def PProg.cells (x:PProg):List AVal:=[.slice (x.enums.map PEnum.cells) .free]++([.slice (x.nodes.map PNode.cells) .free])
def PProg.Small (x:PProg):Prop:=x.enums.length≤qac∧(∀y∈x.enums,PEnum.Small y)∧x.nodes.length≤qac∧(∀y∈x.nodes,PNode.Small y)
theorem PProg.ok (x:PProg):CellsOk 2 x.cells:=CellsOk.append ((show CellsOk 1 [.slice (x.enums.map PEnum.cells) .free]from⟨rfl,rfl,rfl,rfl,rfl⟩)) ((⟨rfl,rfl,rfl,rfl,rfl⟩:CellsOk 1 [.slice (x.nodes.map PNode.cells) .free]))
theorem PProg.len (x:PProg):x.cells.length=2:=x.ok.len
theorem PProg.ones (x:PProg):x.cells.all oneA=true:=x.ok.one
theorem PProg.pures (x:PProg):x.cells.all qcl=true:=x.ok.pure
theorem PProg.strip (x:PProg):x.cells.map qbm=x.cells:=x.ok.strip
theorem PProg.norefs (x:PProg):qad x.cells=[]:=x.ok.refs
theorem PProg.take (x:PProg):List.take 2 x.cells=x.cells:=by rw[wa];rw[x.len];exact we _
theorem PProg.drop (x:PProg):List.drop 2 x.cells=[]:=by rw[←x.len,wb]
theorem PProg.takeA (x:PProg) (r:List AVal):List.take 2 (x.cells++r)=x.cells:=by rw[←x.len,wc]
theorem PProg.dropA (x:PProg) (r:List AVal):List.drop 2 (x.cells++r)=r:=by rw[←x.len,wd]
theorem PProg.get_enums (x:PProg):x.cells[0]? =some (.slice (x.enums.map PEnum.cells) .free):=by
 unfold PProg.cells
 rfl
theorem PProg.get_nodes (x:PProg):x.cells[1]? =some (.slice (x.nodes.map PNode.cells) .free):=by
 unfold PProg.cells
 rfl
structure PTok where
 sort:Int
 text:Str
 n:Int
 line:Int
 col:Int
def PTok.cells (x:PTok):List AVal:=[.int .i64 x.sort]++([.str x.text]++([.int .i64 x.n]++([.int .i64 x.line]++([.int .i64 x.col]))))
def PTok.Small (x:PTok):Prop:=x.text.length≤qac
theorem PTok.ok (x:PTok):CellsOk 5 x.cells:=CellsOk.append ((show CellsOk 1 [.int .i64 x.sort]from⟨rfl,rfl,rfl,rfl,rfl⟩)) (CellsOk.append ((show CellsOk 1 [.str x.text]from⟨rfl,rfl,rfl,rfl,rfl⟩)) (CellsOk.append ((show CellsOk 1 [.int .i64 x.n]from⟨rfl,rfl,rfl,rfl,rfl⟩)) (CellsOk.append ((show CellsOk 1 [.int .i64 x.line]from⟨rfl,rfl,rfl,rfl,rfl⟩)) ((⟨rfl,rfl,rfl,rfl,rfl⟩:CellsOk 1 [.int .i64 x.col])))))
theorem PTok.len (x:PTok):x.cells.length=5:=x.ok.len
theorem PTok.ones (x:PTok):x.cells.all oneA=true:=x.ok.one
theorem PTok.pures (x:PTok):x.cells.all qcl=true:=x.ok.pure
theorem PTok.strip (x:PTok):x.cells.map qbm=x.cells:=x.ok.strip
theorem PTok.norefs (x:PTok):qad x.cells=[]:=x.ok.refs
theorem PTok.take (x:PTok):List.take 5 x.cells=x.cells:=by rw[wa];rw[x.len];exact we _
theorem PTok.drop (x:PTok):List.drop 5 x.cells=[]:=by rw[←x.len,wb]
theorem PTok.takeA (x:PTok) (r:List AVal):List.take 5 (x.cells++r)=x.cells:=by rw[←x.len,wc]
theorem PTok.dropA (x:PTok) (r:List AVal):List.drop 5 (x.cells++r)=r:=by rw[←x.len,wd]
theorem PTok.get_sort (x:PTok):x.cells[0]? =some (.int .i64 x.sort):=by
 unfold PTok.cells
 rfl
theorem PTok.get_text (x:PTok):x.cells[1]? =some (.str x.text):=by
 unfold PTok.cells
 rfl
theorem PTok.get_n (x:PTok):x.cells[2]? =some (.int .i64 x.n):=by
 unfold PTok.cells
 rfl
theorem PTok.get_line (x:PTok):x.cells[3]? =some (.int .i64 x.line):=by
 unfold PTok.cells
 rfl
theorem PTok.get_col (x:PTok):x.cells[4]? =some (.int .i64 x.col):=by
 unfold PTok.cells
 rfl
structure PFault where
 err:Int
 a:Int
 b:Int
def PFault.cells (x:PFault):List AVal:=[.int .i64 x.err]++([.int .i64 x.a]++([.int .i64 x.b]))
def PFault.Small (x:PFault):Prop:=x=x
theorem PFault.ok (x:PFault):CellsOk 3 x.cells:=CellsOk.append ((show CellsOk 1 [.int .i64 x.err]from⟨rfl,rfl,rfl,rfl,rfl⟩)) (CellsOk.append ((show CellsOk 1 [.int .i64 x.a]from⟨rfl,rfl,rfl,rfl,rfl⟩)) ((⟨rfl,rfl,rfl,rfl,rfl⟩:CellsOk 1 [.int .i64 x.b])))
theorem PFault.len (x:PFault):x.cells.length=3:=x.ok.len
theorem PFault.ones (x:PFault):x.cells.all oneA=true:=x.ok.one
theorem PFault.pures (x:PFault):x.cells.all qcl=true:=x.ok.pure
theorem PFault.strip (x:PFault):x.cells.map qbm=x.cells:=x.ok.strip
theorem PFault.norefs (x:PFault):qad x.cells=[]:=x.ok.refs
theorem PFault.take (x:PFault):List.take 3 x.cells=x.cells:=by rw[wa];rw[x.len];exact we _
theorem PFault.drop (x:PFault):List.drop 3 x.cells=[]:=by rw[←x.len,wb]
theorem PFault.takeA (x:PFault) (r:List AVal):List.take 3 (x.cells++r)=x.cells:=by rw[←x.len,wc]
theorem PFault.dropA (x:PFault) (r:List AVal):List.drop 3 (x.cells++r)=r:=by rw[←x.len,wd]
theorem PFault.get_err (x:PFault):x.cells[0]? =some (.int .i64 x.err):=by
 unfold PFault.cells
 rfl
theorem PFault.get_a (x:PFault):x.cells[1]? =some (.int .i64 x.a):=by
 unfold PFault.cells
 rfl
theorem PFault.get_b (x:PFault):x.cells[2]? =some (.int .i64 x.b):=by
 unfold PFault.cells
 rfl
abbrev ty:=Ji (Ji (Ji (Ji (Ji (Ji @PEq.len (Ji @PEq.ones @PEq.pures)) (Ji @PEq.strip (Ji @PEq.norefs @PEq.take))) (Ji (Ji @PEq.drop (Ji @PEq.takeA @PEq.dropA)) (Ji (Ji @PEq.get_names @PEq.sub_e) (Ji @PWay.len @PWay.ones)))) (Ji (Ji (Ji @PWay.pures (Ji @PWay.strip @PWay.norefs)) (Ji (Ji @PWay.take @PWay.drop) (Ji @PWay.takeA @PWay.dropA))) (Ji (Ji @PWay.sub_cond (Ji @PWay.sub0_cond @PWay.get_to)) (Ji (Ji @PState.len @PState.ones) (Ji @PState.pures @PState.strip))))) (Ji (Ji (Ji (Ji @PState.norefs (Ji @PState.take @PState.drop)) (Ji @PState.takeA (Ji @PState.dropA @PState.get_name))) (Ji (Ji @PState.get_eqs (Ji @PState.get_ways @PItem.len)) (Ji (Ji @PItem.ones @PItem.pures) (Ji @PItem.strip @PItem.norefs)))) (Ji (Ji (Ji @PItem.take (Ji @PItem.drop @PItem.takeA)) (Ji (Ji @PItem.dropA @PItem.sub_eq) (Ji @PItem.sub0_eq @PItem.get_states))) (Ji (Ji @PEnum.len (Ji @PEnum.ones @PEnum.pures)) (Ji (Ji @PEnum.strip @PEnum.norefs) (Ji @PEnum.take @PEnum.drop)))))) (Ji (Ji (Ji (Ji (Ji @PEnum.takeA (Ji @PEnum.dropA @PEnum.get_name)) (Ji @PEnum.get_cons (Ji @PNode.len @PNode.ones))) (Ji (Ji @PNode.pures (Ji @PNode.strip @PNode.norefs)) (Ji (Ji @PNode.take @PNode.drop) (Ji @PNode.takeA @PNode.dropA)))) (Ji (Ji (Ji @PNode.get_name (Ji @PNode.get_funs @PNode.get_ins)) (Ji (Ji @PNode.get_outs @PNode.get_items) (Ji @PProg.len @PProg.ones))) (Ji (Ji @PProg.pures (Ji @PProg.strip @PProg.norefs)) (Ji (Ji @PProg.take @PProg.drop) (Ji @PProg.takeA @PProg.dropA))))) (Ji (Ji (Ji (Ji @PProg.get_enums (Ji @PProg.get_nodes @PTok.len)) (Ji (Ji @PTok.ones @PTok.pures) (Ji @PTok.strip @PTok.norefs))) (Ji (Ji @PTok.take (Ji @PTok.drop @PTok.takeA)) (Ji (Ji @PTok.dropA @PTok.get_sort) (Ji @PTok.get_text @PTok.get_n)))) (Ji (Ji (Ji @PTok.get_line (Ji @PTok.get_col @PFault.len)) (Ji (Ji @PFault.ones @PFault.pures) (Ji @PFault.strip @PFault.norefs))) (Ji (Ji @PFault.take (Ji @PFault.drop @PFault.takeA)) (Ji (Ji @PFault.dropA @PFault.get_err) (Ji @PFault.get_a @PFault.get_b))))))
theorem qmw {sz:Nat} {z cs:List AVal} (hz:z.length=sz) (k:CellsOk sz cs):row1 sz z (.agg cs)=some (.val (.slice [cs] .full) .same):=by
 have h1:qd9 (fun i=>some (i*sz,sz)) z [(0,.agg cs)]=some cs:=by
  simp only[qd9,AVal.cells,k.len,if_true,Nat.zero_mul]
  rw[qci (by rw[k.len,hz])]
 unfold row1
 rw[h1]
 simp only[bnd,chop,qex]
 rw[wa (by rw[k.len];exact we _),k.elem]
theorem row_eq (q:PEq) (a b c d e f:AVal):row1 6 [a,b,c,d,e,f] (.agg q.cells)=some (.val (.slice [q.cells] .full) .same):=qmw rfl q.ok
theorem row_way (q:PWay) (a b c d e f:AVal):row1 6 [a,b,c,d,e,f] (.agg q.cells)=some (.val (.slice [q.cells] .full) .same):=qmw rfl q.ok
theorem qy3 (q:PState) (a b c:AVal):row1 3 [a,b,c] (.agg q.cells)=some (.val (.slice [q.cells] .full) .same):=qmw rfl q.ok
theorem q1a (q:PItem) (a b c d e f g:AVal):row1 7 [a,b,c,d,e,f,g] (.agg q.cells)=some (.val (.slice [q.cells] .full) .same):=qmw rfl q.ok
theorem row_node (q:PNode) (a b c d e:AVal):row1 5 [a,b,c,d,e] (.agg q.cells)=some (.val (.slice [q.cells] .full) .same):=qmw rfl q.ok
theorem row_enum (q:PEnum) (a b:AVal):row1 2 [a,b] (.agg q.cells)=some (.val (.slice [q.cells] .full) .same):=qmw rfl q.ok
end Go.Ab
namespace Go.Ab
open Go Go.Ab.Tab
def qjm {α:Type} (p:α→α→Bool):List α→List α→Bool
 |[],[]=>true
 |a::r,b::t=>p a b && qjm p r t
 |_,_=>false
def PEnum.same (a b:PEnum):Bool:=a.name==b.name && a.cons==b.cons
def PEq.same (a b:PEq):Bool:=a.names==b.names && a.e.same b.e
def PWay.same (a b:PWay):Bool:=a.to==b.to && a.cond.same b.cond
def PState.same (a b:PState):Bool:=a.name==b.name && (qjm PEq.same a.eqs b.eqs) && (qjm PWay.same a.ways b.ways)
def PItem.same (a b:PItem):Bool:=a.eq.same b.eq && (qjm PState.same a.states b.states)
def PNode.same (a b:PNode):Bool:=a.name==b.name && a.funs==b.funs && a.ins==b.ins && a.outs==b.outs && (qjm PItem.same a.items b.items)
def PProg.same (a b:PProg):Bool:=(qjm PEnum.same a.enums b.enums) && (qjm PNode.same a.nodes b.nodes)
end Go.Ab
