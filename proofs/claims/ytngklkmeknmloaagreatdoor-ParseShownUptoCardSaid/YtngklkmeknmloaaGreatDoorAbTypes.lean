/- What a parser of the language reads: plain functions over tokens. -/
import Derived.Test.YtngklkmeknmloaaGreatDoorAbSim
import Derived.Test.YtngklkmeknmloaaGreatDoorAbEqs
set_option linter.unusedSimpArgs false
set_option linter.unusedVariables false
set_option maxRecDepth 100000
set_option maxHeartbeats 4000000
open List renaming take_of_length_le→wa,drop_length→wb,take_left→wc,drop_left→wd,getElem?_append→wf,drop_zero→wg
open Nat renaming le_refl→we
namespace Go.Ab
structure PEq where
 names:List Str
 e:PExpr
def PEq.cells (x:PEq):List AVal:=[qag x.names]++(x.e.cells)
def PEq.Small (x:PEq):Prop:=qfy x.names∧x.e.Small
theorem PEq.ok (x:PEq):CellsOk 6 x.cells:=CellsOk.append ((show CellsOk 1 [qag x.names]from⟨rfl,rfl,rfl,rfl,rfl⟩)) (x.e.ok)
theorem PEq.len (x:PEq):x.cells.length=6:=x.ok.len
theorem PEq.ones (x:PEq):x.cells.all oneA=true:=x.ok.one
theorem PEq.pures (x:PEq):x.cells.all qcz=true:=x.ok.pure
theorem PEq.strip (x:PEq):x.cells.map qbk=x.cells:=x.ok.strip
theorem PEq.norefs (x:PEq):qad x.cells=[]:=x.ok.refs
theorem PEq.take (x:PEq):List.take 6 x.cells=x.cells:=by rw[wa];rw[x.len];exact we _
theorem PEq.drop (x:PEq):List.drop 6 x.cells=[]:=by rw[←x.len,wb]
theorem PEq.takeA (x:PEq) (r:List AVal):List.take 6 (x.cells++r)=x.cells:=by rw[←x.len,wc]
theorem PEq.dropA (x:PEq) (r:List AVal):List.drop 6 (x.cells++r)=r:=by rw[←x.len,wd]
theorem PEq.get_names (x:PEq):x.cells[0]? =some (qag x.names):=by
 unfold PEq.cells
 rfl
theorem PEq.sub_e (x:PEq):List.take 5 (List.drop 1 x.cells)=x.e.cells:=by
 unfold PEq.cells
 exact x.e.take
structure PWay where
 cond:PExpr
 to:Str
def PWay.cells (x:PWay):List AVal:=x.cond.cells++([.str x.to])
def PWay.Small (x:PWay):Prop:=x.cond.Small∧x.to.length≤qac
theorem PWay.ok (x:PWay):CellsOk 6 x.cells:=CellsOk.append (x.cond.ok) ((⟨rfl,rfl,rfl,rfl,rfl⟩:CellsOk 1 [.str x.to]))
theorem PWay.len (x:PWay):x.cells.length=6:=x.ok.len
theorem PWay.ones (x:PWay):x.cells.all oneA=true:=x.ok.one
theorem PWay.pures (x:PWay):x.cells.all qcz=true:=x.ok.pure
theorem PWay.strip (x:PWay):x.cells.map qbk=x.cells:=x.ok.strip
theorem PWay.norefs (x:PWay):qad x.cells=[]:=x.ok.refs
theorem PWay.take (x:PWay):List.take 6 x.cells=x.cells:=by rw[wa];rw[x.len];exact we _
theorem PWay.drop (x:PWay):List.drop 6 x.cells=[]:=by rw[←x.len,wb]
theorem PWay.takeA (x:PWay) (r:List AVal):List.take 6 (x.cells++r)=x.cells:=by rw[←x.len,wc]
theorem PWay.dropA (x:PWay) (r:List AVal):List.drop 6 (x.cells++r)=r:=by rw[←x.len,wd]
theorem PWay.sub_cond (x:PWay):List.take 5 (List.drop 0 x.cells)=x.cond.cells:=by
 unfold PWay.cells
 rw[wg];exact x.cond.takeA _
theorem PWay.sub0_cond (x:PWay):List.take 5 x.cells=x.cond.cells:=by
 unfold PWay.cells
 exact x.cond.takeA _
theorem PWay.get_to (x:PWay):x.cells[5]? =some (.str x.to):=by
 unfold PWay.cells
 simp[wf,x.cond.len]
structure PState where
 name:Str
 eqs:List PEq
 ways:List PWay
def PState.cells (x:PState):List AVal:=[.str x.name]++([.slice (x.eqs.map PEq.cells) .free]++([.slice (x.ways.map PWay.cells) .free]))
def PState.Small (x:PState):Prop:=x.name.length≤qac∧x.eqs.length≤qac∧(∀y∈x.eqs,PEq.Small y)∧x.ways.length≤qac∧(∀y∈x.ways,PWay.Small y)
theorem PState.ok (x:PState):CellsOk 3 x.cells:=CellsOk.append ((show CellsOk 1 [.str x.name]from⟨rfl,rfl,rfl,rfl,rfl⟩)) (CellsOk.append ((show CellsOk 1 [.slice (x.eqs.map PEq.cells) .free]from⟨rfl,rfl,rfl,rfl,rfl⟩)) ((⟨rfl,rfl,rfl,rfl,rfl⟩:CellsOk 1 [.slice (x.ways.map PWay.cells) .free])))
theorem PState.len (x:PState):x.cells.length=3:=x.ok.len
theorem PState.ones (x:PState):x.cells.all oneA=true:=x.ok.one
theorem PState.pures (x:PState):x.cells.all qcz=true:=x.ok.pure
theorem PState.strip (x:PState):x.cells.map qbk=x.cells:=x.ok.strip
theorem PState.norefs (x:PState):qad x.cells=[]:=x.ok.refs
theorem PState.take (x:PState):List.take 3 x.cells=x.cells:=by rw[wa];rw[x.len];exact we _
theorem PState.drop (x:PState):List.drop 3 x.cells=[]:=by rw[←x.len,wb]
theorem PState.takeA (x:PState) (r:List AVal):List.take 3 (x.cells++r)=x.cells:=by rw[←x.len,wc]
theorem PState.dropA (x:PState) (r:List AVal):List.drop 3 (x.cells++r)=r:=by rw[←x.len,wd]
theorem PState.get_name (x:PState):x.cells[0]? =some (.str x.name):=by
 unfold PState.cells
 rfl
theorem PState.get_eqs (x:PState):x.cells[1]? =some (.slice (x.eqs.map PEq.cells) .free):=by
 unfold PState.cells
 rfl
theorem PState.get_ways (x:PState):x.cells[2]? =some (.slice (x.ways.map PWay.cells) .free):=by
 unfold PState.cells
 rfl
structure PItem where
 eq:PEq
 states:List PState
def PItem.cells (x:PItem):List AVal:=x.eq.cells++([.slice (x.states.map PState.cells) .free])
def PItem.Small (x:PItem):Prop:=x.eq.Small∧x.states.length≤qac∧(∀y∈x.states,PState.Small y)
theorem PItem.ok (x:PItem):CellsOk 7 x.cells:=CellsOk.append (x.eq.ok) ((⟨rfl,rfl,rfl,rfl,rfl⟩:CellsOk 1 [.slice (x.states.map PState.cells) .free]))
theorem PItem.len (x:PItem):x.cells.length=7:=x.ok.len
theorem PItem.ones (x:PItem):x.cells.all oneA=true:=x.ok.one
theorem PItem.pures (x:PItem):x.cells.all qcz=true:=x.ok.pure
theorem PItem.strip (x:PItem):x.cells.map qbk=x.cells:=x.ok.strip
theorem PItem.norefs (x:PItem):qad x.cells=[]:=x.ok.refs
theorem PItem.take (x:PItem):List.take 7 x.cells=x.cells:=by rw[wa];rw[x.len];exact we _
theorem PItem.drop (x:PItem):List.drop 7 x.cells=[]:=by rw[←x.len,wb]
theorem PItem.takeA (x:PItem) (r:List AVal):List.take 7 (x.cells++r)=x.cells:=by rw[←x.len,wc]
theorem PItem.dropA (x:PItem) (r:List AVal):List.drop 7 (x.cells++r)=r:=by rw[←x.len,wd]
theorem PItem.sub_eq (x:PItem):List.take 6 (List.drop 0 x.cells)=x.eq.cells:=by
 unfold PItem.cells
 rw[wg];exact x.eq.takeA _
theorem PItem.sub0_eq (x:PItem):List.take 6 x.cells=x.eq.cells:=by
 unfold PItem.cells
 exact x.eq.takeA _
theorem PItem.get_states (x:PItem):x.cells[6]? =some (.slice (x.states.map PState.cells) .free):=by
 unfold PItem.cells
 simp[wf,x.eq.len]
structure PEnum where
 name:Str
 cons:List Str
def PEnum.cells (x:PEnum):List AVal:=[.str x.name]++([qag x.cons])
def PEnum.Small (x:PEnum):Prop:=x.name.length≤qac∧qfy x.cons
theorem PEnum.ok (x:PEnum):CellsOk 2 x.cells:=CellsOk.append ((show CellsOk 1 [.str x.name]from⟨rfl,rfl,rfl,rfl,rfl⟩)) ((⟨rfl,rfl,rfl,rfl,rfl⟩:CellsOk 1 [qag x.cons]))
theorem PEnum.len (x:PEnum):x.cells.length=2:=x.ok.len
theorem PEnum.ones (x:PEnum):x.cells.all oneA=true:=x.ok.one
theorem PEnum.pures (x:PEnum):x.cells.all qcz=true:=x.ok.pure
theorem PEnum.strip (x:PEnum):x.cells.map qbk=x.cells:=x.ok.strip
theorem PEnum.norefs (x:PEnum):qad x.cells=[]:=x.ok.refs
theorem PEnum.take (x:PEnum):List.take 2 x.cells=x.cells:=by rw[wa];rw[x.len];exact we _
theorem PEnum.drop (x:PEnum):List.drop 2 x.cells=[]:=by rw[←x.len,wb]
theorem PEnum.takeA (x:PEnum) (r:List AVal):List.take 2 (x.cells++r)=x.cells:=by rw[←x.len,wc]
theorem PEnum.dropA (x:PEnum) (r:List AVal):List.drop 2 (x.cells++r)=r:=by rw[←x.len,wd]
theorem PEnum.get_name (x:PEnum):x.cells[0]? =some (.str x.name):=by
 unfold PEnum.cells
 rfl
theorem PEnum.get_cons (x:PEnum):x.cells[1]? =some (qag x.cons):=by
 unfold PEnum.cells
 rfl
structure PNode where
 name:Str
 funs:List Str
 ins:List Str
 outs:List Str
 items:List PItem
def PNode.cells (x:PNode):List AVal:=[.str x.name]++([qag x.funs]++([qag x.ins]++([qag x.outs]++([.slice (x.items.map PItem.cells) .free]))))
def PNode.Small (x:PNode):Prop:=x.name.length≤qac∧qfy x.funs∧qfy x.ins∧qfy x.outs∧x.items.length≤qac∧(∀y∈x.items,PItem.Small y)
theorem PNode.ok (x:PNode):CellsOk 5 x.cells:=CellsOk.append ((show CellsOk 1 [.str x.name]from⟨rfl,rfl,rfl,rfl,rfl⟩)) (CellsOk.append ((show CellsOk 1 [qag x.funs]from⟨rfl,rfl,rfl,rfl,rfl⟩)) (CellsOk.append ((show CellsOk 1 [qag x.ins]from⟨rfl,rfl,rfl,rfl,rfl⟩)) (CellsOk.append ((show CellsOk 1 [qag x.outs]from⟨rfl,rfl,rfl,rfl,rfl⟩)) ((⟨rfl,rfl,rfl,rfl,rfl⟩:CellsOk 1 [.slice (x.items.map PItem.cells) .free])))))
theorem PNode.len (x:PNode):x.cells.length=5:=x.ok.len
theorem PNode.ones (x:PNode):x.cells.all oneA=true:=x.ok.one
theorem PNode.pures (x:PNode):x.cells.all qcz=true:=x.ok.pure
theorem PNode.strip (x:PNode):x.cells.map qbk=x.cells:=x.ok.strip
theorem PNode.norefs (x:PNode):qad x.cells=[]:=x.ok.refs
theorem PNode.take (x:PNode):List.take 5 x.cells=x.cells:=by rw[wa];rw[x.len];exact we _
theorem PNode.drop (x:PNode):List.drop 5 x.cells=[]:=by rw[←x.len,wb]
theorem PNode.takeA (x:PNode) (r:List AVal):List.take 5 (x.cells++r)=x.cells:=by rw[←x.len,wc]
theorem PNode.dropA (x:PNode) (r:List AVal):List.drop 5 (x.cells++r)=r:=by rw[←x.len,wd]
theorem PNode.get_name (x:PNode):x.cells[0]? =some (.str x.name):=by
 unfold PNode.cells
 rfl
theorem PNode.get_funs (x:PNode):x.cells[1]? =some (qag x.funs):=by
 unfold PNode.cells
 rfl
theorem PNode.get_ins (x:PNode):x.cells[2]? =some (qag x.ins):=by
 unfold PNode.cells
 rfl
theorem PNode.get_outs (x:PNode):x.cells[3]? =some (qag x.outs):=by
 unfold PNode.cells
 rfl
theorem PNode.get_items (x:PNode):x.cells[4]? =some (.slice (x.items.map PItem.cells) .free):=by
 unfold PNode.cells
 rfl
structure PProg where
 enums:List PEnum
 nodes:List PNode
def PProg.cells (x:PProg):List AVal:=[.slice (x.enums.map PEnum.cells) .free]++([.slice (x.nodes.map PNode.cells) .free])
def PProg.Small (x:PProg):Prop:=x.enums.length≤qac∧(∀y∈x.enums,PEnum.Small y)∧x.nodes.length≤qac∧(∀y∈x.nodes,PNode.Small y)
theorem PProg.ok (x:PProg):CellsOk 2 x.cells:=CellsOk.append ((show CellsOk 1 [.slice (x.enums.map PEnum.cells) .free]from⟨rfl,rfl,rfl,rfl,rfl⟩)) ((⟨rfl,rfl,rfl,rfl,rfl⟩:CellsOk 1 [.slice (x.nodes.map PNode.cells) .free]))
theorem PProg.len (x:PProg):x.cells.length=2:=x.ok.len
theorem PProg.ones (x:PProg):x.cells.all oneA=true:=x.ok.one
theorem PProg.pures (x:PProg):x.cells.all qcz=true:=x.ok.pure
theorem PProg.strip (x:PProg):x.cells.map qbk=x.cells:=x.ok.strip
theorem PProg.norefs (x:PProg):qad x.cells=[]:=x.ok.refs
theorem PProg.take (x:PProg):List.take 2 x.cells=x.cells:=by rw[wa];rw[x.len];exact we _
theorem PProg.drop (x:PProg):List.drop 2 x.cells=[]:=by rw[←x.len,wb]
theorem PProg.takeA (x:PProg) (r:List AVal):List.take 2 (x.cells++r)=x.cells:=by rw[←x.len,wc]
theorem PProg.dropA (x:PProg) (r:List AVal):List.drop 2 (x.cells++r)=r:=by rw[←x.len,wd]
theorem PProg.get_enums (x:PProg):x.cells[0]? =some (.slice (x.enums.map PEnum.cells) .free):=by
 unfold PProg.cells
 rfl
theorem PProg.get_nodes (x:PProg):x.cells[1]? =some (.slice (x.nodes.map PNode.cells) .free):=by
 unfold PProg.cells
 rfl
structure PTok where
 sort:Int
 text:Str
 n:Int
 line:Int
 col:Int
def PTok.cells (x:PTok):List AVal:=[.int .i64 x.sort]++([.str x.text]++([.int .i64 x.n]++([.int .i64 x.line]++([.int .i64 x.col]))))
def PTok.Small (x:PTok):Prop:=x.text.length≤qac
theorem PTok.ok (x:PTok):CellsOk 5 x.cells:=CellsOk.append ((show CellsOk 1 [.int .i64 x.sort]from⟨rfl,rfl,rfl,rfl,rfl⟩)) (CellsOk.append ((show CellsOk 1 [.str x.text]from⟨rfl,rfl,rfl,rfl,rfl⟩)) (CellsOk.append ((show CellsOk 1 [.int .i64 x.n]from⟨rfl,rfl,rfl,rfl,rfl⟩)) (CellsOk.append ((show CellsOk 1 [.int .i64 x.line]from⟨rfl,rfl,rfl,rfl,rfl⟩)) ((⟨rfl,rfl,rfl,rfl,rfl⟩:CellsOk 1 [.int .i64 x.col])))))
theorem PTok.len (x:PTok):x.cells.length=5:=x.ok.len
theorem PTok.ones (x:PTok):x.cells.all oneA=true:=x.ok.one
theorem PTok.pures (x:PTok):x.cells.all qcz=true:=x.ok.pure
theorem PTok.strip (x:PTok):x.cells.map qbk=x.cells:=x.ok.strip
theorem PTok.norefs (x:PTok):qad x.cells=[]:=x.ok.refs
theorem PTok.take (x:PTok):List.take 5 x.cells=x.cells:=by rw[wa];rw[x.len];exact we _
theorem PTok.drop (x:PTok):List.drop 5 x.cells=[]:=by rw[←x.len,wb]
theorem PTok.takeA (x:PTok) (r:List AVal):List.take 5 (x.cells++r)=x.cells:=by rw[←x.len,wc]
theorem PTok.dropA (x:PTok) (r:List AVal):List.drop 5 (x.cells++r)=r:=by rw[←x.len,wd]
theorem PTok.get_sort (x:PTok):x.cells[0]? =some (.int .i64 x.sort):=by
 unfold PTok.cells
 rfl
theorem PTok.get_text (x:PTok):x.cells[1]? =some (.str x.text):=by
 unfold PTok.cells
 rfl
theorem PTok.get_n (x:PTok):x.cells[2]? =some (.int .i64 x.n):=by
 unfold PTok.cells
 rfl
theorem PTok.get_line (x:PTok):x.cells[3]? =some (.int .i64 x.line):=by
 unfold PTok.cells
 rfl
theorem PTok.get_col (x:PTok):x.cells[4]? =some (.int .i64 x.col):=by
 unfold PTok.cells
 rfl
structure PFault where
 err:Int
 a:Int
 b:Int
def PFault.cells (x:PFault):List AVal:=[.int .i64 x.err]++([.int .i64 x.a]++([.int .i64 x.b]))
def PFault.Small (x:PFault):Prop:=x=x
theorem PFault.ok (x:PFault):CellsOk 3 x.cells:=CellsOk.append ((show CellsOk 1 [.int .i64 x.err]from⟨rfl,rfl,rfl,rfl,rfl⟩)) (CellsOk.append ((show CellsOk 1 [.int .i64 x.a]from⟨rfl,rfl,rfl,rfl,rfl⟩)) ((⟨rfl,rfl,rfl,rfl,rfl⟩:CellsOk 1 [.int .i64 x.b])))
theorem PFault.len (x:PFault):x.cells.length=3:=x.ok.len
theorem PFault.ones (x:PFault):x.cells.all oneA=true:=x.ok.one
theorem PFault.pures (x:PFault):x.cells.all qcz=true:=x.ok.pure
theorem PFault.strip (x:PFault):x.cells.map qbk=x.cells:=x.ok.strip
theorem PFault.norefs (x:PFault):qad x.cells=[]:=x.ok.refs
theorem PFault.take (x:PFault):List.take 3 x.cells=x.cells:=by rw[wa];rw[x.len];exact we _
theorem PFault.drop (x:PFault):List.drop 3 x.cells=[]:=by rw[←x.len,wb]
theorem PFault.takeA (x:PFault) (r:List AVal):List.take 3 (x.cells++r)=x.cells:=by rw[←x.len,wc]
theorem PFault.dropA (x:PFault) (r:List AVal):List.drop 3 (x.cells++r)=r:=by rw[←x.len,wd]
theorem PFault.get_err (x:PFault):x.cells[0]? =some (.int .i64 x.err):=by
 unfold PFault.cells
 rfl
theorem PFault.get_a (x:PFault):x.cells[1]? =some (.int .i64 x.a):=by
 unfold PFault.cells
 rfl
theorem PFault.get_b (x:PFault):x.cells[2]? =some (.int .i64 x.b):=by
 unfold PFault.cells
 rfl
abbrev ty:=Ji (Ji (Ji (Ji (Ji (Ji @PEq.len (Ji @PEq.ones @PEq.pures)) (Ji @PEq.strip (Ji @PEq.norefs @PEq.take))) (Ji (Ji @PEq.drop (Ji @PEq.takeA @PEq.dropA)) (Ji (Ji @PEq.get_names @PEq.sub_e) (Ji @PWay.len @PWay.ones)))) (Ji (Ji (Ji @PWay.pures (Ji @PWay.strip @PWay.norefs)) (Ji (Ji @PWay.take @PWay.drop) (Ji @PWay.takeA @PWay.dropA))) (Ji (Ji @PWay.sub_cond (Ji @PWay.sub0_cond @PWay.get_to)) (Ji (Ji @PState.len @PState.ones) (Ji @PState.pures @PState.strip))))) (Ji (Ji (Ji (Ji @PState.norefs (Ji @PState.take @PState.drop)) (Ji @PState.takeA (Ji @PState.dropA @PState.get_name))) (Ji (Ji @PState.get_eqs (Ji @PState.get_ways @PItem.len)) (Ji (Ji @PItem.ones @PItem.pures) (Ji @PItem.strip @PItem.norefs)))) (Ji (Ji (Ji @PItem.take (Ji @PItem.drop @PItem.takeA)) (Ji (Ji @PItem.dropA @PItem.sub_eq) (Ji @PItem.sub0_eq @PItem.get_states))) (Ji (Ji @PEnum.len (Ji @PEnum.ones @PEnum.pures)) (Ji (Ji @PEnum.strip @PEnum.norefs) (Ji @PEnum.take @PEnum.drop)))))) (Ji (Ji (Ji (Ji (Ji @PEnum.takeA (Ji @PEnum.dropA @PEnum.get_name)) (Ji @PEnum.get_cons (Ji @PNode.len @PNode.ones))) (Ji (Ji @PNode.pures (Ji @PNode.strip @PNode.norefs)) (Ji (Ji @PNode.take @PNode.drop) (Ji @PNode.takeA @PNode.dropA)))) (Ji (Ji (Ji @PNode.get_name (Ji @PNode.get_funs @PNode.get_ins)) (Ji (Ji @PNode.get_outs @PNode.get_items) (Ji @PProg.len @PProg.ones))) (Ji (Ji @PProg.pures (Ji @PProg.strip @PProg.norefs)) (Ji (Ji @PProg.take @PProg.drop) (Ji @PProg.takeA @PProg.dropA))))) (Ji (Ji (Ji (Ji @PProg.get_enums (Ji @PProg.get_nodes @PTok.len)) (Ji (Ji @PTok.ones @PTok.pures) (Ji @PTok.strip @PTok.norefs))) (Ji (Ji @PTok.take (Ji @PTok.drop @PTok.takeA)) (Ji (Ji @PTok.dropA @PTok.get_sort) (Ji @PTok.get_text @PTok.get_n)))) (Ji (Ji (Ji @PTok.get_line (Ji @PTok.get_col @PFault.len)) (Ji (Ji @PFault.ones @PFault.pures) (Ji @PFault.strip @PFault.norefs))) (Ji (Ji @PFault.take (Ji @PFault.drop @PFault.takeA)) (Ji (Ji @PFault.dropA @PFault.get_err) (Ji @PFault.get_a @PFault.get_b))))))
theorem qn9 {sz:Nat} {z cs:List AVal} (hz:z.length=sz) (k:CellsOk sz cs):row1 sz z (.agg cs)=some (.val (.slice [cs] .full) .same):=by
 have h1:qer (fun i=>some (i*sz,sz)) z [(0,.agg cs)]=some cs:=by
  simp only[qer,AVal.cells,k.len,if_true,Nat.zero_mul]
  rw[qci (by rw[k.len,hz])]
 unfold row1
 rw[h1]
 simp only[bnd,chop,qfd]
 rw[wa (by rw[k.len];exact we _),k.elem]
theorem qyi (q:PEq) (a b c d e f:AVal):row1 6 [a,b,c,d,e,f] (.agg q.cells)=some (.val (.slice [q.cells] .full) .same):=qn9 rfl q.ok
theorem qvc (q:PWay) (a b c d e f:AVal):row1 6 [a,b,c,d,e,f] (.agg q.cells)=some (.val (.slice [q.cells] .full) .same):=qn9 rfl q.ok
theorem qja (q:PState) (a b c:AVal):row1 3 [a,b,c] (.agg q.cells)=some (.val (.slice [q.cells] .full) .same):=qn9 rfl q.ok
theorem qko (q:PItem) (a b c d e f g:AVal):row1 7 [a,b,c,d,e,f,g] (.agg q.cells)=some (.val (.slice [q.cells] .full) .same):=qn9 rfl q.ok
theorem qwm (q:PNode) (a b c d e:AVal):row1 5 [a,b,c,d,e] (.agg q.cells)=some (.val (.slice [q.cells] .full) .same):=qn9 rfl q.ok
theorem qwn (q:PEnum) (a b:AVal):row1 2 [a,b] (.agg q.cells)=some (.val (.slice [q.cells] .full) .same):=qn9 rfl q.ok
abbrev rows:=Ji @qyi (Ji @qvc (Ji @qja (Ji @qko (Ji @qwm @qwn))))
end Go.Ab
namespace Go.Ab
inductive PR (α:Type) where
 |ok (a:α) (ts:List PTok)
 |bad (e:Int) (ts:List PTok)
 |out
def PR.bind {α β:Type} (x:PR α) (k:α→List PTok→PR β):PR β:=match x with
 | .ok a ts=>k a ts
 | .bad e ts=> .bad e ts
 | .out=> .out
def qr7 (s:Str) (t:PTok):Bool:=(t.sort==4||t.sort==5) && t.text==s
def hasS (s:Str):List PTok→Bool
 |t::_=>qr7 s t
 |[]=>false
def qav {β:Type} (s:Str) (ts:List PTok) (k:List PTok→PR β):PR β:=if hasS s ts=true then k ts.tail else .bad 3 ts
def qef {β:Type} (sort:Int) (ts:List PTok) (k:Str→List PTok→PR β):PR β:=match ts with
 |t::r=>if t.sort==sort then k t.text r else .bad 3 (t::r)
 |[]=> .bad 3 []
def qa7 (s:Str):Nat:=
 if s=[45,62]then 1 else if s=[102,98,121]then 2 else if s=[111,114]then 3 else if s=[97,110,100]then 4
 else if s=[60]then 5 else if s=[60,61]then 5 else if s=[61]then 5 else if s=[60,62]then 5
 else if s=[43]then 6 else if s=[45]then 6 else if s=[42]then 7 else if s=[47]then 7 else if s=[37]then 7 else 0
def qaw:List PTok→Str
 |t::_=>if t.sort==4||t.sort==5 then t.text else[]
 |[]=>[]
def qd6:List PTok→Int
 |t::_=>t.sort
 |[]=>6
abbrev Rd:=Nat→Nat→List PTok→PR PExpr
def eUn (op:Str) (k:PExpr):PExpr:= .mk 5 op 0 [] [k]
def ePre (k:PExpr):PExpr:= .mk 9 [] 0 [] [k]
def eIf (a b c:PExpr):PExpr:= .mk 7 [] 0 [] [a,b,c]
def qfj (a b:PExpr):PExpr:= .mk 15 [] 0 [] [a,b]
def qfk (a b:PExpr):PExpr:= .mk 10 [] 0 [] [a,b]
def eFby (a b:PExpr):PExpr:= .mk 8 [] 0 [] [a,b]
def eBin (op:Str) (a b:PExpr):PExpr:= .mk 6 op 0 [] [a,b]
def qhi (x c:Str) (e:PExpr):PExpr:= .mk 11 x 0 [c] [e]
def eInt (n:Int):PExpr:= .mk 1 [] n [] []
def qvd (n:Int):PExpr:= .mk 2 [] n [] []
def eCon (s:Str):PExpr:= .mk 3 s 0 [] []
def eVar (s:Str):PExpr:= .mk 4 s 0 [] []
def qem (sort:Int) (sep:Str):Nat→List PTok→PR (List Str)
 |0,_=> .out
 |n+1,ts=>qef sort ts fun s ts=>if hasS sep ts=true then(qem sort sep n ts.tail).bind fun l ts=> .ok (s::l) ts else .ok [s] ts
def qdn (m:Nat) (opn cls:Str) (ts:List PTok):PR (List Str):=qav opn ts fun ts=>(qem 1 [44] m ts).bind fun l ts=>qav cls ts fun ts=> .ok l ts
def qc4 (R:Rd) (o:Nat):Nat→List PTok→PR (List PExpr)
 |0,_=> .out
 |n+1,ts=>(R o 1 ts).bind fun e ts=>if hasS [44] ts=true then(qc4 R o n ts.tail).bind fun l ts=> .ok (e::l) ts else .ok [e] ts
def qdu (R:Rd) (o:Nat):Nat→List PTok→PR (List (Str×PExpr))
 |0,_=> .out
 |n+1,ts=>qef 2 ts fun c ts=>qav [45,62] ts fun ts=>(R o 1 ts).bind fun e ts=>if hasS [124] ts=true then(qdu R o n ts.tail).bind fun l ts=> .ok ((c,e)::l) ts else .ok [(c,e)] ts
def qkj (m:Nat) (R:Rd) (o:Nat) (op:Int) (ts:List PTok):PR PExpr:=
 qef 1 ts fun x ts=>qav [40] ts fun ts=>(qdu R o m ts).bind fun l ts=>qav [41] ts fun ts=> .ok (.mk op x 0 (l.map (·.1)) (l.map (·.2))) ts
def qjq (m:Nat) (R:Rd) (o:Nat) (x:Str) (ts:List PTok):PR PExpr:=
 (if hasS [91] ts=true then qdn m [91] [93] ts else .ok [] ts).bind fun c ts=>qav [40] ts fun ts=>(qc4 R o m ts).bind fun l ts=>qav [41] ts fun ts=> .ok (.mk 14 x 0 c l) ts
def qhj (m:Nat) (R:Rd) (o:Nat) (ts:List PTok):PR PExpr:=
 if qd6 ts=3 then(match ts with|t::r=> .ok (eInt t.n) r|[]=> .out)
 else if qd6 ts=2 then(match ts with|t::r=> .ok (eCon t.text) r|[]=> .out)
 else if qd6 ts=1 then(match ts with|t::r=>if hasS [91] r||hasS [40] r then qjq m R o t.text r else .ok (eVar t.text) r|[]=> .out)
 else if hasS [116,114,117,101] ts=true then .ok (qvd 1) ts.tail
 else if hasS [102,97,108,115,101] ts=true then .ok (qvd 0) ts.tail
 else if hasS [109,101,114,103,101] ts=true then qkj m R o 12 ts.tail
 else if hasS [109,97,116,99,104] ts=true then qkj m R o 13 ts.tail
 else qav [40] ts fun ts=>(R o 1 ts).bind fun e ts=>qav [41] ts fun ts=> .ok e ts
def qdf:Nat→PExpr→List PTok→PR PExpr
 |0,_,_=> .out
 |n+1,e,ts=>if hasS [119,104,101,110] ts=true then qef 2 ts.tail fun c ts=>qav [40] ts fun ts=>qef 1 ts fun x ts=>qav [41] ts fun ts=>qdf n (qhi x c e) ts else .ok e ts
def qdz (m:Nat) (R:Rd) (o:Nat) (ts:List PTok):PR PExpr:=
 (qhj m R o ts).bind fun e ts=>(if e.op==14 && hasS [101,118,101,114,121] ts then(R o 0 ts.tail).bind fun k ts=> .ok (qfj e k) ts else .ok e ts).bind fun e ts=>qdf m e ts
def qfo (m:Nat) (R:Rd) (o:Nat) (ts:List PTok):PR PExpr:=
 if hasS [110,111,116] ts=true then(R o 0 ts.tail).bind fun k ts=> .ok (eUn [110,111,116] k) ts
 else if hasS [45] ts=true then(R o 0 ts.tail).bind fun k ts=> .ok (eUn [45] k) ts
 else if hasS [112,114,101] ts=true then(R o 0 ts.tail).bind fun k ts=> .ok (ePre k) ts
 else if hasS [105,102] ts=true then(R o 1 ts.tail).bind fun a ts=>qav [116,104,101,110] ts fun ts=>(R o 1 ts).bind fun b ts=>qav [101,108,115,101] ts fun ts=>(R o 1 ts).bind fun c ts=> .ok (eIf a b c) ts
 else qdz m R o ts
def qd7 (R:Rd) (o least:Nat):Nat→Nat→PExpr→List PTok→PR PExpr
 |0,_,_,_=> .out
 |n+1,most,left,ts=>
  if qa7 (qaw ts)<least∨most<qa7 (qaw ts)then .ok left ts
  else if qa7 (qaw ts)=1 then(R o 1 ts.tail).bind fun r ts=> .ok (qfk left r) ts
  else if qa7 (qaw ts)=2 then(R o 2 ts.tail).bind fun r ts'=>qd7 R o least n 1 (eFby left r) ts'
  else(R o (qa7 (qaw ts)+1) ts.tail).bind fun r ts'=>qd7 R o least n (if qa7 (qaw ts)=5 then 4 else qa7 (qaw ts)) (eBin (qaw ts) left r) ts'
def pE:Nat→Rd
 |0,_,_,_=> .out
 |n+1,o,least,ts=>if least=0 then(if 100≤o then .bad 9 ts else qfo n (pE n) (o+1) ts)
  else(pE n o 0 ts).bind fun left ts=>qd7 (pE n) o least n 7 left ts
def pEq (m:Nat) (R:Rd) (ts:List PTok):PR PEq:=
 (if hasS [40] ts=true then qdn m [40] [41] ts else qef 1 ts fun s ts=> .ok [s] ts).bind fun l ts=>qav [61] ts fun ts=>(R 0 1 ts).bind fun e ts=>qav [59] ts fun ts=> .ok ⟨l,e⟩ ts
def qcu (ts:List PTok):Bool:=qd6 ts==1||hasS [40] ts
def pEqs (R:Rd) (m:Nat):Nat→List PTok→PR (List PEq)
 |0,_=> .out
 |n+1,ts=>if qcu ts=true then(pEq m R ts).bind fun q ts=>(pEqs R m n ts).bind fun l ts=> .ok (q::l) ts else .ok [] ts
def qe8 (R:Rd):Nat→List PTok→PR (List PWay)
 |0,_=> .out
 |n+1,ts=>if hasS [117,110,116,105,108] ts=true then(R 0 1 ts.tail).bind fun e ts=>qav [116,104,101,110] ts fun ts=>qef 2 ts fun c ts=>qav [59] ts fun ts=>(qe8 R n ts).bind fun l ts=> .ok (⟨e,c⟩::l) ts else .ok [] ts
def qgr (m:Nat) (R:Rd) (ts:List PTok):PR PState:=
 qef 2 ts fun s ts=>qav [58] ts fun ts=>(pEqs R m m ts).bind fun q ts=>(qe8 R m ts).bind fun w ts=> .ok ⟨s,q,w⟩ ts
def qb9 (R:Rd) (m:Nat):Nat→List PTok→PR (List PState)
 |0,_=> .out
 |n+1,ts=>(qgr m R ts).bind fun s ts=>if hasS [115,116,97,116,101] ts=true then(qb9 R m n ts.tail).bind fun l ts=> .ok (s::l) ts else .ok [s] ts
def eZero:PExpr:= .mk 0 [] 0 [] []
def qce (R:Rd) (m:Nat):Nat→List PTok→PR (List PItem)
 |0,_=> .out
 |n+1,ts=>if qcu ts=true then(pEq m R ts).bind fun q ts=>(qce R m n ts).bind fun l ts=> .ok (⟨q,[]⟩::l) ts
  else if hasS [97,117,116,111,109,97,116,111,110] ts=true then qav [115,116,97,116,101] ts.tail fun ts=>(qb9 R m m ts).bind fun ss ts=>qav [101,110,100] ts fun ts=>qav [59] ts fun ts=>(qce R m n ts).bind fun l ts=> .ok (⟨⟨[],eZero⟩,ss⟩::l) ts
  else .ok [] ts
def qi0 (m:Nat) (R:Rd) (ts:List PTok):PR PNode:=
 qef 1 ts fun x ts=>(if hasS [91] ts=true then qdn m [91] [93] ts else .ok [] ts).bind fun f ts=>(qdn m [40] [41] ts).bind fun i ts=>qav [61] ts fun ts=>(qdn m [40] [41] ts).bind fun u ts=>
  qav [119,104,101,114,101] ts fun ts=>(qce R m m ts).bind fun l ts=>qav [101,110,100] ts fun ts=> .ok ⟨x,f,i,u,l⟩ ts
def qlu (m:Nat) (ts:List PTok):PR PEnum:=
 qef 1 ts fun x ts=>qav [61] ts fun ts=>(qem 2 [124] m ts).bind fun l ts=>qav [59] ts fun ts=> .ok ⟨x,l⟩ ts
def qdv (R:Rd) (m:Nat):Nat→List PTok→PR PProg
 |0,_=> .out
 |n+1,ts=>if qd6 ts=6 then .ok ⟨[],[]⟩ ts
  else if hasS [116,121,112,101] ts=true then(qlu m ts.tail).bind fun t ts=>(qdv R m n ts).bind fun p ts=> .ok ⟨t::p.enums,p.nodes⟩ ts
  else qav [110,111,100,101] ts fun ts=>(qi0 m R ts).bind fun x ts=>(qdv R m n ts).bind fun p ts=> .ok ⟨p.enums,x::p.nodes⟩ ts
def Ev {α:Type} (f:Nat→Nat→α) (x:α):Prop:=∃N,∀m n,N≤m→N≤n→f m n=x
theorem Ev.pure {α:Type} {x:α} {f:Nat→Nat→α} (h:∀m n,f m n=x):Ev f x:=⟨0,fun m n _ _=>h m n⟩
theorem Ev.congr {α:Type} {x:α} {f g:Nat→Nat→α} (h:∀m n,f m n=g m n) (k:Ev g x):Ev f x:=by
 obtain⟨N,k⟩:=k
 exact⟨N,fun m n a b=>by rw[h,k m n a b]⟩
theorem Ev.bind {α β:Type} {f:Nat→Nat→PR α} {k:Nat→Nat→α→List PTok→PR β} {a:α} {ts:List PTok} {x:PR β} (h:Ev f (.ok a ts)) (h2:Ev (fun m n=>k m n a ts) x):Ev (fun m n=>(f m n).bind (k m n)) x:=by
 obtain⟨N,h⟩:=h;obtain⟨M,h2⟩:=h2
 exact⟨max N M,fun m n a b=>by
  show(f m n).bind (k m n)=x
  rw[h m n (by omega) (by omega)];exact h2 m n (by omega) (by omega)⟩
theorem Ev.succ {α:Type} {f:Nat→Nat→α} {g:Nat→Nat→α} {x:α} (h:∀m n,f (m+1) n=g m n) (k:Ev g x):Ev f x:=by
 obtain⟨N,k⟩:=k
 refine⟨N+1,fun m n a b=> ?_⟩
 obtain⟨m,rfl⟩:∃m',m=m'+1:=⟨m-1,by omega⟩
 rw[h];exact k m n (by omega) (by omega)
theorem Ev.un {o:Nat} {ts:List PTok} {x:PR PExpr} (ho:o<100) (h:Ev (fun m n=>qfo m (pE n) (o+1) ts) x):Ev (fun _ n=>pE n o 0 ts) x:=by
 obtain⟨N,h⟩:=h
 refine⟨N+1,fun m n a b=> ?_⟩
 obtain⟨n,rfl⟩:∃n',n=n'+1:=⟨n-1,by omega⟩
 show pE (n+1) o 0 ts=x
 simp only[pE,if_true]
 rw[if_neg (by omega)]
 exact h n n (by omega) (by omega)
theorem Ev.inf {o least:Nat} {ts ts':List PTok} {left:PExpr} {x:PR PExpr} (hl:least≠0) (h:Ev (fun _ n=>pE n o 0 ts) (.ok left ts')) (h2:Ev (fun m n=>qd7 (pE n) o least m 7 left ts') x):Ev (fun _ n=>pE n o least ts) x:=by
 obtain⟨N,h⟩:=h;obtain⟨M,h2⟩:=h2
 refine⟨max N M+1,fun m n a b=> ?_⟩
 obtain⟨n,rfl⟩:∃n',n=n'+1:=⟨n-1,by omega⟩
 show pE (n+1) o least ts=x
 simp only[pE]
 have e:pE n o 0 ts= .ok left ts':=h n n (by omega) (by omega)
 rw[if_neg hl,e]
 exact h2 n n (by omega) (by omega)
end Go.Ab
