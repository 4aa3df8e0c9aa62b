/- An expression sampled: the two walks. -/
import Derived.Test.YtngklkmeknmloaaGreatDoorAbSim
import Derived.Test.YtngklkmeknmloaaGreatDoorAbEqs
import Derived.Test.YtngklkmeknmloaaGreatDoorAbSame
import Derived.Test.YtngklkmeknmloaaGreatDoorAbSize
import Derived.Test.YtngklkmeknmloaaGreatDoorAbBox
set_option linter.unusedSimpArgs false
set_option linter.unusedVariables false
set_option maxRecDepth 100000
set_option maxHeartbeats 4000000
open Go.Proofs
open List renaming take_of_length_le→wa,drop_length→wb,getElem_mem→wc,take_left→wd,drop_left→we,take_succ_eq_append_getElem→wi,getElem?_set_ne→wj,not_mem_nil→wk,getElem?_append→wm,mem_of_mem_take→wo,mem_cons→wq,mem_singleton→wt,mem_map→wu,drop_zero→wv,map_cons→ww
open Nat renaming le_refl→wg,zero_le→wl
open Int renaming natCast_zero→wh
namespace Go.Ab
structure PEq where
 names:List Str
 e:PExpr
def PEq.cells (x:PEq):List AVal:=[qah x.names]++(x.e.cells)
def PEq.Small (x:PEq):Prop:=qcy x.names∧x.e.Small
theorem PEq.ok (x:PEq):CellsOk 6 x.cells:=CellsOk.append ((show CellsOk 1 [qah x.names]from⟨rfl,rfl,rfl,rfl,rfl⟩)) (x.e.ok)
theorem PEq.len (x:PEq):x.cells.length=6:=x.ok.len
theorem PEq.ones (x:PEq):x.cells.all oneA=true:=x.ok.one
theorem PEq.pures (x:PEq):x.cells.all qax=true:=x.ok.pure
theorem PEq.strip (x:PEq):x.cells.map qav=x.cells:=x.ok.strip
theorem PEq.norefs (x:PEq):qag x.cells=[]:=x.ok.refs
theorem PEq.take (x:PEq):List.take 6 x.cells=x.cells:=by rw[wa];rw[x.len];exact wg _
theorem PEq.drop (x:PEq):List.drop 6 x.cells=[]:=by rw[←x.len,wb]
theorem PEq.takeA (x:PEq) (r:List AVal):List.take 6 (x.cells++r)=x.cells:=by rw[←x.len,wd]
theorem PEq.dropA (x:PEq) (r:List AVal):List.drop 6 (x.cells++r)=r:=by rw[←x.len,we]
theorem PEq.get_names (x:PEq):x.cells[0]? =some (qah x.names):=by
 unfold PEq.cells
 rfl
theorem PEq.sub_e (x:PEq):List.take 5 (List.drop 1 x.cells)=x.e.cells:=by
 unfold PEq.cells
 exact x.e.take
structure PWay where
 cond:PExpr
 to:Str
def PWay.cells (x:PWay):List AVal:=x.cond.cells++([.str x.to])
def PWay.Small (x:PWay):Prop:=x.cond.Small∧x.to.length≤qae
theorem PWay.ok (x:PWay):CellsOk 6 x.cells:=CellsOk.append (x.cond.ok) ((⟨rfl,rfl,rfl,rfl,rfl⟩:CellsOk 1 [.str x.to]))
theorem PWay.len (x:PWay):x.cells.length=6:=x.ok.len
theorem PWay.ones (x:PWay):x.cells.all oneA=true:=x.ok.one
theorem PWay.pures (x:PWay):x.cells.all qax=true:=x.ok.pure
theorem PWay.strip (x:PWay):x.cells.map qav=x.cells:=x.ok.strip
theorem PWay.norefs (x:PWay):qag x.cells=[]:=x.ok.refs
theorem PWay.take (x:PWay):List.take 6 x.cells=x.cells:=by rw[wa];rw[x.len];exact wg _
theorem PWay.drop (x:PWay):List.drop 6 x.cells=[]:=by rw[←x.len,wb]
theorem PWay.takeA (x:PWay) (r:List AVal):List.take 6 (x.cells++r)=x.cells:=by rw[←x.len,wd]
theorem PWay.dropA (x:PWay) (r:List AVal):List.drop 6 (x.cells++r)=r:=by rw[←x.len,we]
theorem PWay.sub_cond (x:PWay):List.take 5 (List.drop 0 x.cells)=x.cond.cells:=by
 unfold PWay.cells
 rw[wv];exact x.cond.takeA _
theorem PWay.sub0_cond (x:PWay):List.take 5 x.cells=x.cond.cells:=by
 unfold PWay.cells
 exact x.cond.takeA _
theorem PWay.get_to (x:PWay):x.cells[5]? =some (.str x.to):=by
 unfold PWay.cells
 simp[wm,x.cond.len]
structure PState where
 name:Str
 eqs:List PEq
 ways:List PWay
def PState.cells (x:PState):List AVal:=[.str x.name]++([.slice (x.eqs.map PEq.cells) .free]++([.slice (x.ways.map PWay.cells) .free]))
def PState.Small (x:PState):Prop:=x.name.length≤qae∧x.eqs.length≤qae∧(∀y∈x.eqs,PEq.Small y)∧x.ways.length≤qae∧(∀y∈x.ways,PWay.Small y)
theorem PState.ok (x:PState):CellsOk 3 x.cells:=CellsOk.append ((show CellsOk 1 [.str x.name]from⟨rfl,rfl,rfl,rfl,rfl⟩)) (CellsOk.append ((show CellsOk 1 [.slice (x.eqs.map PEq.cells) .free]from⟨rfl,rfl,rfl,rfl,rfl⟩)) ((⟨rfl,rfl,rfl,rfl,rfl⟩:CellsOk 1 [.slice (x.ways.map PWay.cells) .free])))
theorem PState.len (x:PState):x.cells.length=3:=x.ok.len
theorem PState.ones (x:PState):x.cells.all oneA=true:=x.ok.one
theorem PState.pures (x:PState):x.cells.all qax=true:=x.ok.pure
theorem PState.strip (x:PState):x.cells.map qav=x.cells:=x.ok.strip
theorem PState.norefs (x:PState):qag x.cells=[]:=x.ok.refs
theorem PState.take (x:PState):List.take 3 x.cells=x.cells:=by rw[wa];rw[x.len];exact wg _
theorem PState.drop (x:PState):List.drop 3 x.cells=[]:=by rw[←x.len,wb]
theorem PState.takeA (x:PState) (r:List AVal):List.take 3 (x.cells++r)=x.cells:=by rw[←x.len,wd]
theorem PState.dropA (x:PState) (r:List AVal):List.drop 3 (x.cells++r)=r:=by rw[←x.len,we]
theorem PState.get_name (x:PState):x.cells[0]? =some (.str x.name):=by
 unfold PState.cells
 rfl
theorem PState.get_eqs (x:PState):x.cells[1]? =some (.slice (x.eqs.map PEq.cells) .free):=by
 unfold PState.cells
 rfl
theorem PState.get_ways (x:PState):x.cells[2]? =some (.slice (x.ways.map PWay.cells) .free):=by
 unfold PState.cells
 rfl
structure PItem where
 eq:PEq
 states:List PState
def PItem.cells (x:PItem):List AVal:=x.eq.cells++([.slice (x.states.map PState.cells) .free])
def PItem.Small (x:PItem):Prop:=x.eq.Small∧x.states.length≤qae∧(∀y∈x.states,PState.Small y)
theorem PItem.ok (x:PItem):CellsOk 7 x.cells:=CellsOk.append (x.eq.ok) ((⟨rfl,rfl,rfl,rfl,rfl⟩:CellsOk 1 [.slice (x.states.map PState.cells) .free]))
theorem PItem.len (x:PItem):x.cells.length=7:=x.ok.len
theorem PItem.ones (x:PItem):x.cells.all oneA=true:=x.ok.one
theorem PItem.pures (x:PItem):x.cells.all qax=true:=x.ok.pure
theorem PItem.strip (x:PItem):x.cells.map qav=x.cells:=x.ok.strip
theorem PItem.norefs (x:PItem):qag x.cells=[]:=x.ok.refs
theorem PItem.take (x:PItem):List.take 7 x.cells=x.cells:=by rw[wa];rw[x.len];exact wg _
theorem PItem.drop (x:PItem):List.drop 7 x.cells=[]:=by rw[←x.len,wb]
theorem PItem.takeA (x:PItem) (r:List AVal):List.take 7 (x.cells++r)=x.cells:=by rw[←x.len,wd]
theorem PItem.dropA (x:PItem) (r:List AVal):List.drop 7 (x.cells++r)=r:=by rw[←x.len,we]
theorem PItem.sub_eq (x:PItem):List.take 6 (List.drop 0 x.cells)=x.eq.cells:=by
 unfold PItem.cells
 rw[wv];exact x.eq.takeA _
theorem PItem.sub0_eq (x:PItem):List.take 6 x.cells=x.eq.cells:=by
 unfold PItem.cells
 exact x.eq.takeA _
theorem PItem.get_states (x:PItem):x.cells[6]? =some (.slice (x.states.map PState.cells) .free):=by
 unfold PItem.cells
 simp[wm,x.eq.len]
structure PEnum where
 name:Str
 cons:List Str
def PEnum.cells (x:PEnum):List AVal:=[.str x.name]++([qah x.cons])
def PEnum.Small (x:PEnum):Prop:=x.name.length≤qae∧qcy x.cons
theorem PEnum.ok (x:PEnum):CellsOk 2 x.cells:=CellsOk.append ((show CellsOk 1 [.str x.name]from⟨rfl,rfl,rfl,rfl,rfl⟩)) ((⟨rfl,rfl,rfl,rfl,rfl⟩:CellsOk 1 [qah x.cons]))
theorem PEnum.len (x:PEnum):x.cells.length=2:=x.ok.len
theorem PEnum.ones (x:PEnum):x.cells.all oneA=true:=x.ok.one
theorem PEnum.pures (x:PEnum):x.cells.all qax=true:=x.ok.pure
theorem PEnum.strip (x:PEnum):x.cells.map qav=x.cells:=x.ok.strip
theorem PEnum.norefs (x:PEnum):qag x.cells=[]:=x.ok.refs
theorem PEnum.take (x:PEnum):List.take 2 x.cells=x.cells:=by rw[wa];rw[x.len];exact wg _
theorem PEnum.drop (x:PEnum):List.drop 2 x.cells=[]:=by rw[←x.len,wb]
theorem PEnum.takeA (x:PEnum) (r:List AVal):List.take 2 (x.cells++r)=x.cells:=by rw[←x.len,wd]
theorem PEnum.dropA (x:PEnum) (r:List AVal):List.drop 2 (x.cells++r)=r:=by rw[←x.len,we]
theorem PEnum.get_name (x:PEnum):x.cells[0]? =some (.str x.name):=by
 unfold PEnum.cells
 rfl
theorem PEnum.get_cons (x:PEnum):x.cells[1]? =some (qah x.cons):=by
 unfold PEnum.cells
 rfl
structure PNode where
 name:Str
 funs:List Str
 ins:List Str
 outs:List Str
 items:List PItem
def PNode.cells (x:PNode):List AVal:=[.str x.name]++([qah x.funs]++([qah x.ins]++([qah x.outs]++([.slice (x.items.map PItem.cells) .free]))))
def PNode.Small (x:PNode):Prop:=x.name.length≤qae∧qcy x.funs∧qcy x.ins∧qcy x.outs∧x.items.length≤qae∧(∀y∈x.items,PItem.Small y)
theorem PNode.ok (x:PNode):CellsOk 5 x.cells:=CellsOk.append ((show CellsOk 1 [.str x.name]from⟨rfl,rfl,rfl,rfl,rfl⟩)) (CellsOk.append ((show CellsOk 1 [qah x.funs]from⟨rfl,rfl,rfl,rfl,rfl⟩)) (CellsOk.append ((show CellsOk 1 [qah x.ins]from⟨rfl,rfl,rfl,rfl,rfl⟩)) (CellsOk.append ((show CellsOk 1 [qah x.outs]from⟨rfl,rfl,rfl,rfl,rfl⟩)) ((⟨rfl,rfl,rfl,rfl,rfl⟩:CellsOk 1 [.slice (x.items.map PItem.cells) .free])))))
theorem PNode.len (x:PNode):x.cells.length=5:=x.ok.len
theorem PNode.ones (x:PNode):x.cells.all oneA=true:=x.ok.one
theorem PNode.pures (x:PNode):x.cells.all qax=true:=x.ok.pure
theorem PNode.strip (x:PNode):x.cells.map qav=x.cells:=x.ok.strip
theorem PNode.norefs (x:PNode):qag x.cells=[]:=x.ok.refs
theorem PNode.take (x:PNode):List.take 5 x.cells=x.cells:=by rw[wa];rw[x.len];exact wg _
theorem PNode.drop (x:PNode):List.drop 5 x.cells=[]:=by rw[←x.len,wb]
theorem PNode.takeA (x:PNode) (r:List AVal):List.take 5 (x.cells++r)=x.cells:=by rw[←x.len,wd]
theorem PNode.dropA (x:PNode) (r:List AVal):List.drop 5 (x.cells++r)=r:=by rw[←x.len,we]
theorem PNode.get_name (x:PNode):x.cells[0]? =some (.str x.name):=by
 unfold PNode.cells
 rfl
theorem PNode.get_funs (x:PNode):x.cells[1]? =some (qah x.funs):=by
 unfold PNode.cells
 rfl
theorem PNode.get_ins (x:PNode):x.cells[2]? =some (qah x.ins):=by
 unfold PNode.cells
 rfl
theorem PNode.get_outs (x:PNode):x.cells[3]? =some (qah x.outs):=by
 unfold PNode.cells
 rfl
theorem PNode.get_items (x:PNode):x.cells[4]? =some (.slice (x.items.map PItem.cells) .free):=by
 unfold PNode.cells
 rfl
structure PProg where
 enums:List PEnum
 nodes:List PNode
def PProg.cells (x:PProg):List AVal:=[.slice (x.enums.map PEnum.cells) .free]++([.slice (x.nodes.map PNode.cells) .free])
def PProg.Small (x:PProg):Prop:=x.enums.length≤qae∧(∀y∈x.enums,PEnum.Small y)∧x.nodes.length≤qae∧(∀y∈x.nodes,PNode.Small y)
theorem PProg.ok (x:PProg):CellsOk 2 x.cells:=CellsOk.append ((show CellsOk 1 [.slice (x.enums.map PEnum.cells) .free]from⟨rfl,rfl,rfl,rfl,rfl⟩)) ((⟨rfl,rfl,rfl,rfl,rfl⟩:CellsOk 1 [.slice (x.nodes.map PNode.cells) .free]))
theorem PProg.len (x:PProg):x.cells.length=2:=x.ok.len
theorem PProg.ones (x:PProg):x.cells.all oneA=true:=x.ok.one
theorem PProg.pures (x:PProg):x.cells.all qax=true:=x.ok.pure
theorem PProg.strip (x:PProg):x.cells.map qav=x.cells:=x.ok.strip
theorem PProg.norefs (x:PProg):qag x.cells=[]:=x.ok.refs
theorem PProg.take (x:PProg):List.take 2 x.cells=x.cells:=by rw[wa];rw[x.len];exact wg _
theorem PProg.drop (x:PProg):List.drop 2 x.cells=[]:=by rw[←x.len,wb]
theorem PProg.takeA (x:PProg) (r:List AVal):List.take 2 (x.cells++r)=x.cells:=by rw[←x.len,wd]
theorem PProg.dropA (x:PProg) (r:List AVal):List.drop 2 (x.cells++r)=r:=by rw[←x.len,we]
theorem PProg.get_enums (x:PProg):x.cells[0]? =some (.slice (x.enums.map PEnum.cells) .free):=by
 unfold PProg.cells
 rfl
theorem PProg.get_nodes (x:PProg):x.cells[1]? =some (.slice (x.nodes.map PNode.cells) .free):=by
 unfold PProg.cells
 rfl
structure PTok where
 sort:Int
 text:Str
 n:Int
 line:Int
 col:Int
def PTok.cells (x:PTok):List AVal:=[.int .i64 x.sort]++([.str x.text]++([.int .i64 x.n]++([.int .i64 x.line]++([.int .i64 x.col]))))
def PTok.Small (x:PTok):Prop:=x.text.length≤qae
theorem PTok.ok (x:PTok):CellsOk 5 x.cells:=CellsOk.append ((show CellsOk 1 [.int .i64 x.sort]from⟨rfl,rfl,rfl,rfl,rfl⟩)) (CellsOk.append ((show CellsOk 1 [.str x.text]from⟨rfl,rfl,rfl,rfl,rfl⟩)) (CellsOk.append ((show CellsOk 1 [.int .i64 x.n]from⟨rfl,rfl,rfl,rfl,rfl⟩)) (CellsOk.append ((show CellsOk 1 [.int .i64 x.line]from⟨rfl,rfl,rfl,rfl,rfl⟩)) ((⟨rfl,rfl,rfl,rfl,rfl⟩:CellsOk 1 [.int .i64 x.col])))))
theorem PTok.len (x:PTok):x.cells.length=5:=x.ok.len
theorem PTok.ones (x:PTok):x.cells.all oneA=true:=x.ok.one
theorem PTok.pures (x:PTok):x.cells.all qax=true:=x.ok.pure
theorem PTok.strip (x:PTok):x.cells.map qav=x.cells:=x.ok.strip
theorem PTok.norefs (x:PTok):qag x.cells=[]:=x.ok.refs
theorem PTok.take (x:PTok):List.take 5 x.cells=x.cells:=by rw[wa];rw[x.len];exact wg _
theorem PTok.drop (x:PTok):List.drop 5 x.cells=[]:=by rw[←x.len,wb]
theorem PTok.takeA (x:PTok) (r:List AVal):List.take 5 (x.cells++r)=x.cells:=by rw[←x.len,wd]
theorem PTok.dropA (x:PTok) (r:List AVal):List.drop 5 (x.cells++r)=r:=by rw[←x.len,we]
theorem PTok.get_sort (x:PTok):x.cells[0]? =some (.int .i64 x.sort):=by
 unfold PTok.cells
 rfl
theorem PTok.get_text (x:PTok):x.cells[1]? =some (.str x.text):=by
 unfold PTok.cells
 rfl
theorem PTok.get_n (x:PTok):x.cells[2]? =some (.int .i64 x.n):=by
 unfold PTok.cells
 rfl
theorem PTok.get_line (x:PTok):x.cells[3]? =some (.int .i64 x.line):=by
 unfold PTok.cells
 rfl
theorem PTok.get_col (x:PTok):x.cells[4]? =some (.int .i64 x.col):=by
 unfold PTok.cells
 rfl
structure PFault where
 err:Int
 a:Int
 b:Int
def PFault.cells (x:PFault):List AVal:=[.int .i64 x.err]++([.int .i64 x.a]++([.int .i64 x.b]))
def PFault.Small (x:PFault):Prop:=x=x
theorem PFault.ok (x:PFault):CellsOk 3 x.cells:=CellsOk.append ((show CellsOk 1 [.int .i64 x.err]from⟨rfl,rfl,rfl,rfl,rfl⟩)) (CellsOk.append ((show CellsOk 1 [.int .i64 x.a]from⟨rfl,rfl,rfl,rfl,rfl⟩)) ((⟨rfl,rfl,rfl,rfl,rfl⟩:CellsOk 1 [.int .i64 x.b])))
theorem PFault.len (x:PFault):x.cells.length=3:=x.ok.len
theorem PFault.ones (x:PFault):x.cells.all oneA=true:=x.ok.one
theorem PFault.pures (x:PFault):x.cells.all qax=true:=x.ok.pure
theorem PFault.strip (x:PFault):x.cells.map qav=x.cells:=x.ok.strip
theorem PFault.norefs (x:PFault):qag x.cells=[]:=x.ok.refs
theorem PFault.take (x:PFault):List.take 3 x.cells=x.cells:=by rw[wa];rw[x.len];exact wg _
theorem PFault.drop (x:PFault):List.drop 3 x.cells=[]:=by rw[←x.len,wb]
theorem PFault.takeA (x:PFault) (r:List AVal):List.take 3 (x.cells++r)=x.cells:=by rw[←x.len,wd]
theorem PFault.dropA (x:PFault) (r:List AVal):List.drop 3 (x.cells++r)=r:=by rw[←x.len,we]
theorem PFault.get_err (x:PFault):x.cells[0]? =some (.int .i64 x.err):=by
 unfold PFault.cells
 rfl
theorem PFault.get_a (x:PFault):x.cells[1]? =some (.int .i64 x.a):=by
 unfold PFault.cells
 rfl
theorem PFault.get_b (x:PFault):x.cells[2]? =some (.int .i64 x.b):=by
 unfold PFault.cells
 rfl
abbrev ty:=Ji (Ji (Ji (Ji (Ji (Ji @PEq.len (Ji @PEq.ones @PEq.pures)) (Ji @PEq.strip (Ji @PEq.norefs @PEq.take))) (Ji (Ji @PEq.drop (Ji @PEq.takeA @PEq.dropA)) (Ji (Ji @PEq.get_names @PEq.sub_e) (Ji @PWay.len @PWay.ones)))) (Ji (Ji (Ji @PWay.pures (Ji @PWay.strip @PWay.norefs)) (Ji (Ji @PWay.take @PWay.drop) (Ji @PWay.takeA @PWay.dropA))) (Ji (Ji @PWay.sub_cond (Ji @PWay.sub0_cond @PWay.get_to)) (Ji (Ji @PState.len @PState.ones) (Ji @PState.pures @PState.strip))))) (Ji (Ji (Ji (Ji @PState.norefs (Ji @PState.take @PState.drop)) (Ji @PState.takeA (Ji @PState.dropA @PState.get_name))) (Ji (Ji @PState.get_eqs (Ji @PState.get_ways @PItem.len)) (Ji (Ji @PItem.ones @PItem.pures) (Ji @PItem.strip @PItem.norefs)))) (Ji (Ji (Ji @PItem.take (Ji @PItem.drop @PItem.takeA)) (Ji (Ji @PItem.dropA @PItem.sub_eq) (Ji @PItem.sub0_eq @PItem.get_states))) (Ji (Ji @PEnum.len (Ji @PEnum.ones @PEnum.pures)) (Ji (Ji @PEnum.strip @PEnum.norefs) (Ji @PEnum.take @PEnum.drop)))))) (Ji (Ji (Ji (Ji (Ji @PEnum.takeA (Ji @PEnum.dropA @PEnum.get_name)) (Ji @PEnum.get_cons (Ji @PNode.len @PNode.ones))) (Ji (Ji @PNode.pures (Ji @PNode.strip @PNode.norefs)) (Ji (Ji @PNode.take @PNode.drop) (Ji @PNode.takeA @PNode.dropA)))) (Ji (Ji (Ji @PNode.get_name (Ji @PNode.get_funs @PNode.get_ins)) (Ji (Ji @PNode.get_outs @PNode.get_items) (Ji @PProg.len @PProg.ones))) (Ji (Ji @PProg.pures (Ji @PProg.strip @PProg.norefs)) (Ji (Ji @PProg.take @PProg.drop) (Ji @PProg.takeA @PProg.dropA))))) (Ji (Ji (Ji (Ji @PProg.get_enums (Ji @PProg.get_nodes @PTok.len)) (Ji (Ji @PTok.ones @PTok.pures) (Ji @PTok.strip @PTok.norefs))) (Ji (Ji @PTok.take (Ji @PTok.drop @PTok.takeA)) (Ji (Ji @PTok.dropA @PTok.get_sort) (Ji @PTok.get_text @PTok.get_n)))) (Ji (Ji (Ji @PTok.get_line (Ji @PTok.get_col @PFault.len)) (Ji (Ji @PFault.ones @PFault.pures) (Ji @PFault.strip @PFault.norefs))) (Ji (Ji @PFault.take (Ji @PFault.drop @PFault.takeA)) (Ji (Ji @PFault.dropA @PFault.get_err) (Ji @PFault.get_a @PFault.get_b))))))
end Go.Ab
namespace Go.Ab
open Go Go.Ab.Tab
def qi3 {α:Type} (p:α→α→Bool):List α→List α→Bool
 |[],[]=>true
 |a::r,b::t=>p a b && qi3 p r t
 |_,_=>false
def PEnum.same (a b:PEnum):Bool:=a.name==b.name && a.cons==b.cons
def PEq.same (a b:PEq):Bool:=a.names==b.names && a.e.same b.e
def PWay.same (a b:PWay):Bool:=a.to==b.to && a.cond.same b.cond
def PState.same (a b:PState):Bool:=a.name==b.name && (qi3 PEq.same a.eqs b.eqs) && (qi3 PWay.same a.ways b.ways)
def PItem.same (a b:PItem):Bool:=a.eq.same b.eq && (qi3 PState.same a.states b.states)
def PNode.same (a b:PNode):Bool:=a.name==b.name && a.funs==b.funs && a.ins==b.ins && a.outs==b.outs && (qi3 PItem.same a.items b.items)
def PProg.same (a b:PProg):Bool:=(qi3 PEnum.same a.enums b.enums) && (qi3 PNode.same a.nodes b.nodes)
end Go.Ab
namespace Go.Ab
open Go Go.Ab.Tab
mutual
def PExpr.samp (x con:Str):PExpr→PExpr
 | .mk op s n c ks=>if op=4 then .mk 11 x 0 [con] [.mk op s n c ks]else .mk op s n c (qi4 x con ks)
def qi4 (x con:Str):List PExpr→List PExpr
 |[]=>[]
 |k::r=>k.samp x con::qi4 x con r
end
mutual
def PExpr.vars:PExpr→Int
 | .mk op _ _ _ ks=>if op=4 then 1 else qhl ks 0
def qhl:List PExpr→Int→Int
 |[],a=>a
 |k::r,a=>qhl r (wadd a k.vars)
end
theorem qo3 (x con:Str) (l:List PExpr):qi4 x con l=l.map (PExpr.samp x con):=by
 induction l with
 |nil=>rfl
 |cons k r ih=>simp only[qi4,ih,ww]
theorem qo4 (a b:Int):wadd a b=(a+b).bmod 18446744073709551616:=by
 show(if(-9223372036854775808≤a+b && a+b≤9223372036854775807)=true then a+b else IntKind.wrap .i64 (a+b))=_
 split
 ·rename_i h
  simp only[Bool.and_eq_true,decide_eq_true_eq]at h
  rw[Int.bmod_eq_of_le]<;>omega
 ·show(if(true && decide ((a+b) % 18446744073709551616≥9223372036854775808))=true then(a+b) % 18446744073709551616-18446744073709551616 else(a+b) % 18446744073709551616)=_
  unfold Int.bmod
  simp only[Bool.true_and,decide_eq_true_eq]
  split<;>split<;>omega
theorem samp_size (x con:Str) (e:PExpr):(e.samp x con).size=wadd e.size e.vars:=by
 induction e using PExpr.induct with
 |h op s n c ks ih=>
  simp only[PExpr.samp,PExpr.vars]
  split
  ·simp only[PExpr.size,qgc,qo4]
   congr 1;omega
  ·simp only[PExpr.size]
   have key:∀(l:List PExpr) (a b:Int),(∀k∈l,(k.samp x con).size=wadd k.size k.vars)→qgc (qi4 x con l) (wadd a b)=wadd (qgc l a) (qhl l b):=by
    intro l
    induction l with
    |nil=>intro a b _;rfl
    |cons k r ihr=>
     intro a b h
     simp only[qi4,qgc,qhl]
     rw[←ihr _ _ fun k hk=>h k (List.mem_cons_of_mem _ hk),h k (List.mem_cons_self ..)]
     congr 1
     simp only[qo4,Int.bmod_add_bmod,Int.add_bmod_bmod]
     congr 1;omega
   rw[←key ks 1 0 ih]
   rfl
theorem qtq {x con:Str} (hx:x.length≤qae) (hc:con.length≤qae) (e:PExpr) (h:e.Small):(e.samp x con).Small:=by
 induction e using PExpr.induct with
 |h op s n c ks ih=>
  simp only[PExpr.samp]
  split
  ·exact .mk _ _ _ _ _ hx ⟨by unfold qae;simp,fun y hy=>by rw[wt.1 hy];exact hc⟩ (by unfold qae;simp) (fun k hk=>by rw[wt.1 hk];exact h)
  ·obtain⟨h1,h2⟩:=h.kids
   simp only[PExpr.kids]at h1 h2
   rw[qo3]
   refine .mk _ _ _ _ _ h.name h.cons (by simpa using h1) (fun k hk=> ?_)
   obtain⟨y,hy,rfl⟩:=wu.1 hk
   exact ih y hy (h2 y hy)
theorem vars_c (e:PExpr) (hsm:e.Small):Ret C 33 [.agg e.cells] (.int .i64 e.vars):=by
 induction e using PExpr.induct with
 |h op name n cons ks ih=>
 obtain⟨hkl,hks⟩:=hsm.kids
 simp only[PExpr.kids]at hkl hks
 refine Ret.mk (by simp[qag,qi1 (PExpr.ok _)]) rfl ?_
 have hv:(PExpr.mk op name n cons ks).vars=if op=4 then 1 else qhl ks 0:=by simp only[PExpr.vars]
 rw[hv]
 rw[C_fn rfl Tryz.func33 rfl (by kernel_rfl) (m:=23) rfl];simp only[Z3,simprocAttr,Tryz.f33,fx_33,PExpr.kids,PExpr.op]
 by_cases h4:op=4
 ·have o1:(op==4)=true:=by simp[h4]
  simp only[Z3,simprocAttr,fx_33,o1,if_pos h4]
 have o1:(op==4)=false:=by simp[h4]
 simp only[Z3,simprocAttr,fx_33,o1,if_neg h4,PExpr.kids]
 generalize hb:qar PP cmp0 C lpC _=f;generalize hl:lpC f _=r
 obtain⟨ex,s',rfl,rfl,h2⟩:=qgz (α:=Nat×Int) hl [8,9,10,11,12,13,14,15,16,17,18,19,20,21,22] (fun a=>[(3,.int .i64 a.2),(4,.int .i64 a.1)]) (fun a=>a.1≤ks.length) (fun a=>ks.length-a.1) (fun a=>qhl (ks.drop a.1) a.2)
  (fun ts H r ex s=>ex= .exit 0∧At [4,8,9,10,11,12,13,14,15,16,17,18,19,20,21,22] ts H [(3,.int .i64 r)] s) (0,0) (wl _) (by simp only[At,ats,wh]) (by
   rintro⟨i,a⟩ j H d hi
   clear hl;subst hb
   by_cases hlt:i<ks.length
   ·have e1:((i:Int)<(ks.length:Int)):=by omega
    have e3:(ks.map PExpr.cells)[i]? =some (ks[i].cells):=by simp[hlt]
    simp only[Z3,simprocAttr,fx_33,e1,e3,PExpr.kids,(ih ks[i] (wc hlt) (hks _ (wc hlt))) _,qb2 (show i≤qae by omega)]
    refine .inl ⟨(i+1,wadd a ks[i].vars),_,rfl,hlt,by simp only[At,ats,wadd,imax],by simp only[];omega,?_⟩
    simp only[List.drop_eq_getElem_cons hlt,qhl]
   ·have e1:¬((i:Int)<(ks.length:Int)):=by omega
    simp only[Z3,simprocAttr,fx_33,PExpr.kids,e1]
    refine .inr ⟨_,_,rfl,by simp,rfl,?_⟩
    simp only[List.drop_eq_nil_of_le (Nat.le_of_not_lt hlt),qhl,At,ats])
 obtain⟨j,H,d,rfl⟩:=h2.elim
 clear hl
 simp only[Z3,simprocAttr]
end Go.Ab
namespace Go.Ab
open Go Go.Ab.Tab
theorem PExpr.set3 (e:PExpr) (v:AVal):qaj e.cells 3 [v]=some [.int .i64 e.op,.str e.name,.int .i64 e.n,v,.slice (e.kids.map PExpr.cells) .free]:=by rw[e.cells_eq];rfl
theorem strs_enc (l:List Str):qe6 (l.map fun s=>[AVal.str s])=some l:=by
 induction l with
 |nil=>rfl
 |cons s r ih=>simp only[ww,qe6,ih,Option.map_some]
theorem clone_c (l:List Str) (h:qcy l):Ret C 62 [qah l] (qah l):=by
 refine Ret.mk rfl rfl ?_
 have h1:ext0 62=some qfk:=rfl
 unfold C
 rw[qfj h1]
 show(match qe6 (l.map fun s=>[AVal.str s])with
  |some l=>if l.length≤1099511627776 then some (CR.ret (.slice (l.map fun s=>[.str s]) .free) .same)else none
  |none=>none)=_
 rw[strs_enc]
 simp only[]
 rw[if_pos (show l.length≤1099511627776 from h.1)];rfl
theorem heap2 {H:qaa} {x y:Blk} (h0:H[0]? =some x) (h1:H[1]? =some y):∃r,H=x::y::r:=by
 match H,h0,h1 with
 |a::b::r,h0,h1=>cases h0;cases h1;exact⟨r,rfl⟩
theorem Grow.slice {h:qaa} {v:AVal} {es:List (List AVal)} {T:TypeId} (g:Grow h v es T):∃tk,v= .slice es tk:=by
 rcases g with⟨rfl,h⟩|⟨t,h,_⟩
 ·exact⟨_,h⟩
 ·exact⟨_,h⟩
theorem idn_c (e:PExpr):Ret C 68 [.agg e.cells] (.agg e.cells):=by
 refine Ret.mk (by simp[qag,refs,e.norefs]) (by simp[refs,e.norefs]) ?_
 rw[C_fn rfl Tryz.func68 rfl (by kernel_rfl) (m:=3) rfl];simp only[Z3,simprocAttr,Tryz.f68,fx_68,effs]
 rw[qcx _ _ _ (by rw[qbx,e.strip];simp[refs,e.norefs])]
 simp only[qbx,e.strip]
theorem rebuilt_c (e:PExpr) (hsm:e.Small):Ret C 67 [.agg e.cells,.func 68 [] []] (.agg e.cells):=by
 induction e using PExpr.induct with
 |h op name n cons ks ih=>
  obtain⟨e,he⟩:∃e,e=PExpr.mk op name n cons ks:=⟨_,rfl⟩
  rw[←he]at hsm ⊢
  have hke:e.kids=ks:=by rw[he];rfl
  have hkl:=hsm.kids.1
  have hks:=hsm.kids.2
  refine Ret.mk (by simp[qag,refs,e.norefs]) (by simp[refs,e.norefs]) ?_
  have c0:=clone_c e.cons hsm.cons
  have c9:=idn_c e
  rw[C_fn rfl Tryz.func67 rfl (by kernel_rfl) (m:=29) rfl];simp only[Z3,simprocAttr,Tryz.f67,fx_67,effs,PExpr.set3,c0 _]
  generalize hb:qar PP cmp0 C lpC _=f;generalize hl:lpC f _=r
  obtain⟨ex,s',rfl,rfl,v',h2⟩:=qlo (α:=Nat×AVal) hl [7,16,17,18,19,20,21,22,23,24,25] (fun a=>[(15,.int .i64 a.1),(5,a.2)]) (fun a h=>a.1≤e.kids.length∧Grow h a.2 ((e.kids.map PExpr.cells).take a.1) 37∧h[0]? =some (.box [.int .i64 e.op,.str e.name,.int .i64 e.n,qah e.cons,.slice (e.kids.map PExpr.cells) .free])∧h[1]? =some (.box [.int .i64 0,.str [],.int .i64 0,.slice [] .full,.slice [] .full])) (fun a=>e.kids.length-a.1) (fun _=>())
   (fun ts _ ex s=>ex= .exit 0∧∃v,OutT [7,15,16,17,18,19,20,21,22,23,24,25] ts [(5,v)] (fun h=>Grow h v (e.kids.map PExpr.cells) 37∧h[0]? =some (.box [.int .i64 e.op,.str e.name,.int .i64 e.n,qah e.cons,.slice (e.kids.map PExpr.cells) .free])∧h[1]? =some (.box [.int .i64 0,.str [],.int .i64 0,.slice [] .full,.slice [] .full])) s) (0,.slice [] .full) ⟨wl _,.inl ⟨rfl,rfl⟩,rfl,rfl⟩ (by simp only[AtT,ats,wh]) (by
    rintro⟨i,v⟩ j h d ⟨hi,hg,q0,q1⟩
    clear hl;subst hb
    simp only at hi hg
    by_cases hlt:i<e.kids.length
    ·have e1:((i:Int)<(e.kids.length:Int)):=by omega
     have e3:=qg3 e.kids i hlt
     have c1:=ih e.kids[i] (by rw[←hke];exact wc hlt) (hks _ (wc hlt))
     obtain⟨v1,E1,ha1,hg1,hB1⟩:=qg2 qe7 (fs:=[e.kids[i].cells]) (hg.app [.box e.kids[i].cells]) (by simp;omega) (fun c hc=>by obtain⟨y,_,rfl⟩:=wu.1 (wo hc);exact y.len) (by intro c hc;simp only[wq,wk,or_false]at hc;subst hc;exact PExpr.len _) (by simp)
     have htk:(e.kids.map PExpr.cells).take (i+1)=(e.kids.map PExpr.cells).take i++[e.kids[i].cells]:=by
      rw[wi (by simpa using hlt)];simp
     simp only[Z3,simprocAttr,effs,fx_67,e1,e3,q0,c1 _,ha1,qb2 (show i≤qae by omega)]
     exact .inl ⟨(i+1,v1),_,rfl,⟨hlt,by rw[htk];exact hg1,hB1 _ _ (Boxes.app _ _ _ _ q0),hB1 _ _ (Boxes.app _ _ _ _ q1)⟩,by simp only[AtT,ats],by(try simp only[]);omega,by first|rfl|trivial⟩
    ·have e1:¬((i:Int)<(e.kids.length:Int)):=by omega
     simp only[Z3,simprocAttr,effs,fx_67,e1,q0]
     have:(e.kids.map PExpr.cells).take i=e.kids.map PExpr.cells:=wa (by simp;omega)
     rw[this]at hg
     exact .inr ⟨_,_,rfl,by simp,rfl,v,by simp only[AtT,ats],hg,q0,q1⟩)
  obtain⟨j,H,d,⟨hg,q0,q1⟩,rfl⟩:=h2.elim
  clear hl
  obtain⟨H,rfl⟩:=heap2 q0 q1
  obtain⟨tk,rfl⟩:=hg.slice
  have c8:∀h,qa7 C h 68 [.agg [.int .i64 e.op,.str e.name,.int .i64 e.n,qah e.cons,.slice (e.kids.map PExpr.cells) .free]]=some (.ret (.agg e.cells) .same):=fun h=>by
   rw[←e.cells_eq];exact c9 h
  simp only[Z3,simprocAttr,effs,fx_67,c8]
  rw[qcx _ _ _ (by rw[qbx,e.strip];simp[refs,e.norefs])]
  simp only[qbx,e.strip]
end Go.Ab
namespace Go.Ab
open Go Go.Ab.Tab
theorem samp_eq (x con:Str) (e:PExpr):e.samp x con=if e.op=4 then .mk 11 x 0 [con] [e]else .mk e.op e.name e.n e.cons (e.kids.map (PExpr.samp x con)):=by
 cases e with
 |mk op s n c ks=>
  have:(PExpr.mk op s n c ks).samp x con=if op=4 then .mk 11 x 0 [con] [.mk op s n c ks]else .mk op s n c (qi4 x con ks):=by simp only[PExpr.samp]
  rw[this,qo3];rfl
def qcf (x con:Str) (e:PExpr):List (List AVal):=e.kids.map fun k=>(k.samp x con).cells
theorem qnw (x con:Str) (e:PExpr) (i:Nat):∀c∈(qcf x con e).take i,c.length=5:=fun c hc=>by
 obtain⟨y,_,rfl⟩:=wu.1 (wo hc);exact PExpr.len _
theorem qnx (x con:Str) (e:PExpr) (i:Nat) (h:i<e.kids.length):(qcf x con e).take (i+1)=(qcf x con e).take i++[(e.kids[i].samp x con).cells]:=by
 rw[wi (by simpa[qcf]using h)];simp[qcf]
theorem qge (x con:Str) (e:PExpr) (h:¬e.op=4) (tk:Tk):List.map qav [.int .i64 e.op,.str e.name,.int .i64 e.n,qah e.cons,.slice (qcf x con e) tk]=(e.samp x con).cells:=by
 rw[samp_eq,if_neg h,PExpr.cells_eq]
 simp only[PExpr.op,PExpr.name,PExpr.n,PExpr.cons,PExpr.kids,List.map_map,qcf]
 cases tk<;>rfl
theorem qhm (x con:Str) (e:PExpr) (h:e.op=4) (t1 t2:Tk):List.map qav [.int .i64 11,.str x,.int .i64 0,.slice [[.str con]] t1,.slice [e.cells] t2]=(e.samp x con).cells:=by
 rw[samp_eq,if_pos h,(PExpr.mk 11 x 0 [con] [e]).cells_eq]
 cases t1<;>cases t2<;>rfl
theorem samp_c (x con:Str) (e:PExpr) (hsm:e.Small):Ret C 31 [.agg e.cells,.str x,.str con] (.agg (e.samp x con).cells):=by
 induction e using PExpr.induct with
 |h op name n cons ks ih=>
  obtain⟨e,he⟩:∃e,e=PExpr.mk op name n cons ks:=⟨_,rfl⟩
  rw[←he]at hsm ⊢
  have hke:e.kids=ks:=by rw[he];rfl
  have hkl:=hsm.kids.1
  have hks:=hsm.kids.2
  refine Ret.mk (by simp[qag,refs,e.norefs]) (by simp[refs,PExpr.norefs]) ?_
  have c0:=clone_c e.cons hsm.cons
  have c9:=rebuilt_c e hsm
  by_cases h4:e.op=4
  ·have o1:(e.op==4)=true:=by simp[h4]
   rw[C_fn rfl Tryz.func31 rfl (by kernel_rfl) (m:=41) rfl];simp only[Z3,simprocAttr,Tryz.f31,fx_31,effs,o1,c9 _]
   rw[qcx _ _ _ (by rw[qbx,qhm x con e h4];simp[refs,PExpr.norefs])]
   simp only[qbx,qhm x con e h4]
  have o1:(e.op==4)=false:=by simp[h4]
  rw[C_fn rfl Tryz.func31 rfl (by kernel_rfl) (m:=41) rfl];simp only[Z3,simprocAttr,Tryz.f31,fx_31,effs,PExpr.set3,c0 _,o1]
  generalize hb:qar PP cmp0 C lpC _=f;generalize hl:lpC f _=r
  obtain⟨ex,s',rfl,rfl,v',h2⟩:=qlo (α:=Nat×AVal) hl [10,30,31,32,33,34,35,36,37,38,39,40] (fun a=>[(29,.int .i64 a.1),(8,a.2)]) (fun a h=>a.1≤e.kids.length∧Grow h a.2 ((qcf x con e).take a.1) 37∧h[0]? =some (.box [.int .i64 e.op,.str e.name,.int .i64 e.n,qah e.cons,.slice (e.kids.map PExpr.cells) .free])∧h[1]? =some (.box [.int .i64 0,.str [],.int .i64 0,.slice [] .full,.slice [] .full])) (fun a=>e.kids.length-a.1) (fun _=>())
   (fun ts _ ex s=>ex= .exit 0∧∃v,OutT [10,29,30,31,32,33,34,35,36,37,38,39,40] ts [(8,v)] (fun h=>Grow h v (qcf x con e) 37∧h[0]? =some (.box [.int .i64 e.op,.str e.name,.int .i64 e.n,qah e.cons,.slice (e.kids.map PExpr.cells) .free])∧h[1]? =some (.box [.int .i64 0,.str [],.int .i64 0,.slice [] .full,.slice [] .full])) s) (0,.slice [] .full) ⟨wl _,.inl ⟨rfl,rfl⟩,rfl,rfl⟩ (by simp only[AtT,ats,wh]) (by
    rintro⟨i,v⟩ j h d ⟨hi,hg,q0,q1⟩
    clear hl;subst hb
    simp only at hi hg
    by_cases hlt:i<e.kids.length
    ·have e1:((i:Int)<(e.kids.length:Int)):=by omega
     have e3:=qg3 e.kids i hlt
     have c1:=ih e.kids[i] (by rw[←hke];exact wc hlt) (hks _ (wc hlt))
     obtain⟨v1,E1,ha1,hg1,hB1⟩:=qg2 qe7 (fs:=[(e.kids[i].samp x con).cells]) (hg.app [.box e.kids[i].cells]) (by simp[qcf];omega) (qnw x con e i) (by intro c hc;simp only[wq,wk,or_false]at hc;subst hc;exact PExpr.len _) (by simp)
     simp only[Z3,simprocAttr,effs,fx_31,e1,e3,q0,c1 _,ha1,qb2 (show i≤qae by omega)]
     exact .inl ⟨(i+1,v1),_,rfl,⟨hlt,by rw[qnx x con e i hlt];exact hg1,hB1 _ _ (Boxes.app _ _ _ _ q0),hB1 _ _ (Boxes.app _ _ _ _ q1)⟩,by simp only[AtT,ats],by(try simp only[]);omega,by first|rfl|trivial⟩
    ·have e1:¬((i:Int)<(e.kids.length:Int)):=by omega
     simp only[Z3,simprocAttr,effs,fx_31,e1,q0]
     have:(qcf x con e).take i=qcf x con e:=wa (by simp[qcf];omega)
     rw[this]at hg
     exact .inr ⟨_,_,rfl,by simp,rfl,v,by simp only[AtT,ats],hg,q0,q1⟩)
  obtain⟨j,H,d,⟨hg,q0,q1⟩,rfl⟩:=h2.elim
  clear hl
  obtain⟨H,rfl⟩:=heap2 q0 q1
  obtain⟨tk,rfl⟩:=hg.slice
  simp only[Z3,simprocAttr,effs,fx_31]
  rw[qcx _ _ _ (by rw[qbx,qge x con e h4];simp[refs,PExpr.norefs])]
  simp only[qbx,qge x con e h4]
theorem Grow.set {h:qaa} {v:AVal} {es:List (List AVal)} {T:TypeId} {b:Nat} {x:List AVal} (y:List AVal) (g:Grow h v es T) (hb:h[b]? =some (.box x)):Grow (h.set b (.box y)) v es T:=by
 rcases g with g|⟨t,hv,ht⟩
 ·exact .inl g
 ·refine .inr ⟨t,hv,?_⟩
  by_cases hbt:b=t
  ·subst hbt;rw[hb]at ht;cases ht
  ·rw[wj hbt];exact ht
theorem heap3 {H:qaa} {x y z:Blk} (h0:H[0]? =some x) (h1:H[1]? =some y) (h2:H[2]? =some z):∃r,H=x::y::z::r:=by
 match H,h0,h1,h2 with
 |a::b::c::r,h0,h1,h2=>cases h0;cases h1;cases h2;exact⟨r,rfl⟩
theorem rsamp_c (x con:Str) (e:PExpr) (hsm:e.Small):Ret C 32 [.agg e.cells,.str x,.str con] (.agg (e.samp x con).cells):=by
 induction e using PExpr.induct with
 |h op name n cons ks ih=>
  obtain⟨e,he⟩:∃e,e=PExpr.mk op name n cons ks:=⟨_,rfl⟩
  rw[←he]at hsm ⊢
  have hke:e.kids=ks:=by rw[he];rfl
  have hkl:=hsm.kids.1
  have hks:=hsm.kids.2
  refine Ret.mk (by simp[qag,refs,e.norefs]) (by simp[refs,PExpr.norefs]) ?_
  by_cases h4:e.op=4
  ·have o1:(e.op==4)=true:=by simp[h4]
   rw[C_fn rfl Tryz.func32 rfl (by kernel_rfl) (m:=47) rfl];simp only[Z3,simprocAttr,Tryz.f32,fx_32,effs,o1]
   rw[qcx _ _ _ (by rw[qbx,qhm x con e h4];simp[refs,PExpr.norefs])]
   simp only[qbx,qhm x con e h4]
  have o1:(e.op==4)=false:=by simp[h4]
  rw[C_fn rfl Tryz.func32 rfl (by kernel_rfl) (m:=47) rfl];simp only[Z3,simprocAttr,Tryz.f32,fx_32,effs,o1]
  generalize hb:qar PP cmp0 C lpC _=f;generalize hl:lpC f _=r
  obtain⟨ex,s',rfl,rfl,v',h2⟩:=qlo (α:=Nat×AVal) hl [9,28,29,30,31,32,33,34,35,36,37,38,39,40,41,42,43,44,45,46,47,48] (fun a=>[(8,.int .i64 a.1)]) (fun a h=>a.1≤e.kids.length∧Grow h a.2 ((qcf x con e).take a.1) 37∧h[0]? =some (.box e.cells)∧h[1]? =some (.box [.int .i64 0,.str [],.int .i64 0,.slice [] .full,.slice [] .full])∧h[2]? =some (.box [.int .i64 e.op,.str e.name,.int .i64 e.n,qah e.cons,a.2])) (fun a=>e.kids.length-a.1) (fun _=>())
   (fun ts _ ex s=>ex= .exit 0∧∃v,OutT [8,9,28,29,30,31,32,33,34,35,36,37,38,39,40,41,42,43,44,45,46,47,48] ts [] (fun h=>Grow h v (qcf x con e) 37∧h[0]? =some (.box e.cells)∧h[1]? =some (.box [.int .i64 0,.str [],.int .i64 0,.slice [] .full,.slice [] .full])∧h[2]? =some (.box [.int .i64 e.op,.str e.name,.int .i64 e.n,qah e.cons,v])) s) (0,.slice [] .full) ⟨wl _,.inl ⟨rfl,rfl⟩,rfl,rfl,rfl⟩ (by simp only[AtT,ats,wh]) (by
    rintro⟨i,v⟩ j h d ⟨hi,hg,q0,q1,q2⟩
    clear hl;subst hb
    simp only at hi hg q2
    by_cases hlt:i<e.kids.length
    ·have e1:((i:Int)<(e.kids.length:Int)):=by omega
     have e3:=qg3 e.kids i hlt
     have c1:=ih e.kids[i] (by rw[←hke];exact wc hlt) (hks _ (wc hlt))
     obtain⟨v1,E1,ha1,hg1,hB1⟩:=qg2 qe7 (fs:=[(e.kids[i].samp x con).cells]) (hg.app [.box (e.kids[i].samp x con).cells]) (by simp[qcf];omega) (qnw x con e i) (by intro c hc;simp only[wq,wk,or_false]at hc;subst hc;exact PExpr.len _) (by simp)
     have q2':=Boxes.app _ [.box (e.kids[i].samp x con).cells] _ _ q2
     have p0:=hB1 _ _ (Boxes.app _ _ _ _ q0)
     have p1:=hB1 _ _ (Boxes.app _ _ _ _ q1)
     have p2:=hB1 _ _ (Boxes.app _ _ _ _ q2)
     obtain⟨tk1,rfl⟩:=hg1.slice
     simp only[Z3,simprocAttr,effs,fx_32,e1,e3,q0,q2,q2',c1 _,ha1,p2,qb2 (show i≤qae by omega)]
     refine .inl ⟨(i+1,.slice ((qcf x con e).take i++[(e.kids[i].samp x con).cells]) tk1),_,rfl,⟨hlt,?_,?_,?_,?_⟩,by simp only[AtT,ats],by(try simp only[]);omega,by first|rfl|trivial⟩
     ·rw[qnx x con e i hlt];exact hg1.set _ p2
     ·rw[wj (by decide)];exact p0
     ·rw[wj (by decide)];exact p1
     ·rw[List.getElem?_set_self (List.getElem?_eq_some_iff.1 p2).1]
    ·have e1:¬((i:Int)<(e.kids.length:Int)):=by omega
     simp only[Z3,simprocAttr,effs,fx_32,e1,q0]
     have:(qcf x con e).take i=qcf x con e:=wa (by simp[qcf];omega)
     rw[this]at hg
     exact .inr ⟨_,_,rfl,by simp,rfl,v,by simp only[AtT,ats],hg,q0,q1,q2⟩)
  obtain⟨j,H,d,⟨hg,q0,q1,q2⟩,rfl⟩:=h2.elim
  clear hl
  obtain⟨H,rfl⟩:=heap3 q0 q1 q2
  obtain⟨tk,rfl⟩:=hg.slice
  simp only[Z3,simprocAttr,effs,fx_32]
  rw[qcx _ _ _ (by rw[qbx,qge x con e h4];simp[refs,PExpr.norefs])]
  simp only[qbx,qge x con e h4]
end Go.Ab
