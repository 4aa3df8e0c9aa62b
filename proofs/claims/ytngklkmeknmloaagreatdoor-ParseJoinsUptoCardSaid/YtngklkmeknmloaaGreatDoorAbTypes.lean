/- The scanner: going on in a text. -/
import Derived.Test.YtngklkmeknmloaaGreatDoorAbSim
import Derived.Test.YtngklkmeknmloaaGreatDoorAbEqs
import Derived.Test.YtngklkmeknmloaaGreatDoorAbSize
import Derived.Test.YtngklkmeknmloaaGreatDoorAbBox
import Derived.Test.YtngklkmeknmloaaGreatDoorAbObj
set_option linter.unusedSimpArgs false
set_option linter.unusedVariables false
set_option maxRecDepth 100000
set_option maxHeartbeats 4000000
open Go.Proofs
open List renaming take_of_length_le→wa,drop_length→wc,take_left→wd,drop_left→we,drop_eq_getElem_cons→wg,drop_zero→wh,append_assoc→wi,length_cons→wj,cons_append→wk,nil_append→wm,drop_eq_nil_of_le→wo,getElem?_append→wq,any_cons→ww
open Int renaming natCast_zero→wb
open Nat renaming le_refl→wf,sub_lt_sub_left→wt,zero_le→wu,lt_succ_self→wv
namespace Go.Ab
structure PEq where
 names:List Str
 e:PExpr
def PEq.cells (x:PEq):List AVal:=[qag x.names]++(x.e.cells)
def PEq.Small (x:PEq):Prop:=qfm x.names∧x.e.Small
theorem PEq.ok (x:PEq):CellsOk 6 x.cells:=CellsOk.append ((show CellsOk 1 [qag x.names]from⟨rfl,rfl,rfl,rfl,rfl⟩)) (x.e.ok)
theorem PEq.len (x:PEq):x.cells.length=6:=x.ok.len
theorem PEq.ones (x:PEq):x.cells.all oneA=true:=x.ok.one
theorem PEq.pures (x:PEq):x.cells.all qcu=true:=x.ok.pure
theorem PEq.strip (x:PEq):x.cells.map qbj=x.cells:=x.ok.strip
theorem PEq.norefs (x:PEq):qad x.cells=[]:=x.ok.refs
theorem PEq.take (x:PEq):List.take 6 x.cells=x.cells:=by rw[wa];rw[x.len];exact wf _
theorem PEq.drop (x:PEq):List.drop 6 x.cells=[]:=by rw[←x.len,wc]
theorem PEq.takeA (x:PEq) (r:List AVal):List.take 6 (x.cells++r)=x.cells:=by rw[←x.len,wd]
theorem PEq.dropA (x:PEq) (r:List AVal):List.drop 6 (x.cells++r)=r:=by rw[←x.len,we]
theorem PEq.get_names (x:PEq):x.cells[0]? =some (qag x.names):=by
 unfold PEq.cells
 rfl
theorem PEq.sub_e (x:PEq):List.take 5 (List.drop 1 x.cells)=x.e.cells:=by
 unfold PEq.cells
 exact x.e.take
structure PWay where
 cond:PExpr
 to:Str
def PWay.cells (x:PWay):List AVal:=x.cond.cells++([.str x.to])
def PWay.Small (x:PWay):Prop:=x.cond.Small∧x.to.length≤qac
theorem PWay.ok (x:PWay):CellsOk 6 x.cells:=CellsOk.append (x.cond.ok) ((⟨rfl,rfl,rfl,rfl,rfl⟩:CellsOk 1 [.str x.to]))
theorem PWay.len (x:PWay):x.cells.length=6:=x.ok.len
theorem PWay.ones (x:PWay):x.cells.all oneA=true:=x.ok.one
theorem PWay.pures (x:PWay):x.cells.all qcu=true:=x.ok.pure
theorem PWay.strip (x:PWay):x.cells.map qbj=x.cells:=x.ok.strip
theorem PWay.norefs (x:PWay):qad x.cells=[]:=x.ok.refs
theorem PWay.take (x:PWay):List.take 6 x.cells=x.cells:=by rw[wa];rw[x.len];exact wf _
theorem PWay.drop (x:PWay):List.drop 6 x.cells=[]:=by rw[←x.len,wc]
theorem PWay.takeA (x:PWay) (r:List AVal):List.take 6 (x.cells++r)=x.cells:=by rw[←x.len,wd]
theorem PWay.dropA (x:PWay) (r:List AVal):List.drop 6 (x.cells++r)=r:=by rw[←x.len,we]
theorem PWay.sub_cond (x:PWay):List.take 5 (List.drop 0 x.cells)=x.cond.cells:=by
 unfold PWay.cells
 rw[wh];exact x.cond.takeA _
theorem PWay.sub0_cond (x:PWay):List.take 5 x.cells=x.cond.cells:=by
 unfold PWay.cells
 exact x.cond.takeA _
theorem PWay.get_to (x:PWay):x.cells[5]? =some (.str x.to):=by
 unfold PWay.cells
 simp[wq,x.cond.len]
structure PState where
 name:Str
 eqs:List PEq
 ways:List PWay
def PState.cells (x:PState):List AVal:=[.str x.name]++([.slice (x.eqs.map PEq.cells) .free]++([.slice (x.ways.map PWay.cells) .free]))
def PState.Small (x:PState):Prop:=x.name.length≤qac∧x.eqs.length≤qac∧(∀y∈x.eqs,PEq.Small y)∧x.ways.length≤qac∧(∀y∈x.ways,PWay.Small y)
theorem PState.ok (x:PState):CellsOk 3 x.cells:=CellsOk.append ((show CellsOk 1 [.str x.name]from⟨rfl,rfl,rfl,rfl,rfl⟩)) (CellsOk.append ((show CellsOk 1 [.slice (x.eqs.map PEq.cells) .free]from⟨rfl,rfl,rfl,rfl,rfl⟩)) ((⟨rfl,rfl,rfl,rfl,rfl⟩:CellsOk 1 [.slice (x.ways.map PWay.cells) .free])))
theorem PState.len (x:PState):x.cells.length=3:=x.ok.len
theorem PState.ones (x:PState):x.cells.all oneA=true:=x.ok.one
theorem PState.pures (x:PState):x.cells.all qcu=true:=x.ok.pure
theorem PState.strip (x:PState):x.cells.map qbj=x.cells:=x.ok.strip
theorem PState.norefs (x:PState):qad x.cells=[]:=x.ok.refs
theorem PState.take (x:PState):List.take 3 x.cells=x.cells:=by rw[wa];rw[x.len];exact wf _
theorem PState.drop (x:PState):List.drop 3 x.cells=[]:=by rw[←x.len,wc]
theorem PState.takeA (x:PState) (r:List AVal):List.take 3 (x.cells++r)=x.cells:=by rw[←x.len,wd]
theorem PState.dropA (x:PState) (r:List AVal):List.drop 3 (x.cells++r)=r:=by rw[←x.len,we]
theorem PState.get_name (x:PState):x.cells[0]? =some (.str x.name):=by
 unfold PState.cells
 rfl
theorem PState.get_eqs (x:PState):x.cells[1]? =some (.slice (x.eqs.map PEq.cells) .free):=by
 unfold PState.cells
 rfl
theorem PState.get_ways (x:PState):x.cells[2]? =some (.slice (x.ways.map PWay.cells) .free):=by
 unfold PState.cells
 rfl
structure PItem where
 eq:PEq
 states:List PState
def PItem.cells (x:PItem):List AVal:=x.eq.cells++([.slice (x.states.map PState.cells) .free])
def PItem.Small (x:PItem):Prop:=x.eq.Small∧x.states.length≤qac∧(∀y∈x.states,PState.Small y)
theorem PItem.ok (x:PItem):CellsOk 7 x.cells:=CellsOk.append (x.eq.ok) ((⟨rfl,rfl,rfl,rfl,rfl⟩:CellsOk 1 [.slice (x.states.map PState.cells) .free]))
theorem PItem.len (x:PItem):x.cells.length=7:=x.ok.len
theorem PItem.ones (x:PItem):x.cells.all oneA=true:=x.ok.one
theorem PItem.pures (x:PItem):x.cells.all qcu=true:=x.ok.pure
theorem PItem.strip (x:PItem):x.cells.map qbj=x.cells:=x.ok.strip
theorem PItem.norefs (x:PItem):qad x.cells=[]:=x.ok.refs
theorem PItem.take (x:PItem):List.take 7 x.cells=x.cells:=by rw[wa];rw[x.len];exact wf _
theorem PItem.drop (x:PItem):List.drop 7 x.cells=[]:=by rw[←x.len,wc]
theorem PItem.takeA (x:PItem) (r:List AVal):List.take 7 (x.cells++r)=x.cells:=by rw[←x.len,wd]
theorem PItem.dropA (x:PItem) (r:List AVal):List.drop 7 (x.cells++r)=r:=by rw[←x.len,we]
theorem PItem.sub_eq (x:PItem):List.take 6 (List.drop 0 x.cells)=x.eq.cells:=by
 unfold PItem.cells
 rw[wh];exact x.eq.takeA _
theorem PItem.sub0_eq (x:PItem):List.take 6 x.cells=x.eq.cells:=by
 unfold PItem.cells
 exact x.eq.takeA _
theorem PItem.get_states (x:PItem):x.cells[6]? =some (.slice (x.states.map PState.cells) .free):=by
 unfold PItem.cells
 simp[wq,x.eq.len]
structure PEnum where
 name:Str
 cons:List Str
def PEnum.cells (x:PEnum):List AVal:=[.str x.name]++([qag x.cons])
def PEnum.Small (x:PEnum):Prop:=x.name.length≤qac∧qfm x.cons
theorem PEnum.ok (x:PEnum):CellsOk 2 x.cells:=CellsOk.append ((show CellsOk 1 [.str x.name]from⟨rfl,rfl,rfl,rfl,rfl⟩)) ((⟨rfl,rfl,rfl,rfl,rfl⟩:CellsOk 1 [qag x.cons]))
theorem PEnum.len (x:PEnum):x.cells.length=2:=x.ok.len
theorem PEnum.ones (x:PEnum):x.cells.all oneA=true:=x.ok.one
theorem PEnum.pures (x:PEnum):x.cells.all qcu=true:=x.ok.pure
theorem PEnum.strip (x:PEnum):x.cells.map qbj=x.cells:=x.ok.strip
theorem PEnum.norefs (x:PEnum):qad x.cells=[]:=x.ok.refs
theorem PEnum.take (x:PEnum):List.take 2 x.cells=x.cells:=by rw[wa];rw[x.len];exact wf _
theorem PEnum.drop (x:PEnum):List.drop 2 x.cells=[]:=by rw[←x.len,wc]
theorem PEnum.takeA (x:PEnum) (r:List AVal):List.take 2 (x.cells++r)=x.cells:=by rw[←x.len,wd]
theorem PEnum.dropA (x:PEnum) (r:List AVal):List.drop 2 (x.cells++r)=r:=by rw[←x.len,we]
theorem PEnum.get_name (x:PEnum):x.cells[0]? =some (.str x.name):=by
 unfold PEnum.cells
 rfl
theorem PEnum.get_cons (x:PEnum):x.cells[1]? =some (qag x.cons):=by
 unfold PEnum.cells
 rfl
structure PNode where
 name:Str
 funs:List Str
 ins:List Str
 outs:List Str
 items:List PItem
def PNode.cells (x:PNode):List AVal:=[.str x.name]++([qag x.funs]++([qag x.ins]++([qag x.outs]++([.slice (x.items.map PItem.cells) .free]))))
def PNode.Small (x:PNode):Prop:=x.name.length≤qac∧qfm x.funs∧qfm x.ins∧qfm x.outs∧x.items.length≤qac∧(∀y∈x.items,PItem.Small y)
theorem PNode.ok (x:PNode):CellsOk 5 x.cells:=CellsOk.append ((show CellsOk 1 [.str x.name]from⟨rfl,rfl,rfl,rfl,rfl⟩)) (CellsOk.append ((show CellsOk 1 [qag x.funs]from⟨rfl,rfl,rfl,rfl,rfl⟩)) (CellsOk.append ((show CellsOk 1 [qag x.ins]from⟨rfl,rfl,rfl,rfl,rfl⟩)) (CellsOk.append ((show CellsOk 1 [qag x.outs]from⟨rfl,rfl,rfl,rfl,rfl⟩)) ((⟨rfl,rfl,rfl,rfl,rfl⟩:CellsOk 1 [.slice (x.items.map PItem.cells) .free])))))
theorem PNode.len (x:PNode):x.cells.length=5:=x.ok.len
theorem PNode.ones (x:PNode):x.cells.all oneA=true:=x.ok.one
theorem PNode.pures (x:PNode):x.cells.all qcu=true:=x.ok.pure
theorem PNode.strip (x:PNode):x.cells.map qbj=x.cells:=x.ok.strip
theorem PNode.norefs (x:PNode):qad x.cells=[]:=x.ok.refs
theorem PNode.take (x:PNode):List.take 5 x.cells=x.cells:=by rw[wa];rw[x.len];exact wf _
theorem PNode.drop (x:PNode):List.drop 5 x.cells=[]:=by rw[←x.len,wc]
theorem PNode.takeA (x:PNode) (r:List AVal):List.take 5 (x.cells++r)=x.cells:=by rw[←x.len,wd]
theorem PNode.dropA (x:PNode) (r:List AVal):List.drop 5 (x.cells++r)=r:=by rw[←x.len,we]
theorem PNode.get_name (x:PNode):x.cells[0]? =some (.str x.name):=by
 unfold PNode.cells
 rfl
theorem PNode.get_funs (x:PNode):x.cells[1]? =some (qag x.funs):=by
 unfold PNode.cells
 rfl
theorem PNode.get_ins (x:PNode):x.cells[2]? =some (qag x.ins):=by
 unfold PNode.cells
 rfl
theorem PNode.get_outs (x:PNode):x.cells[3]? =some (qag x.outs):=by
 unfold PNode.cells
 rfl
theorem PNode.get_items (x:PNode):x.cells[4]? =some (.slice (x.items.map PItem.cells) .free):=by
 unfold PNode.cells
 rfl
structure PProg where
 enums:List PEnum
 nodes:List PNode
def PProg.cells (x:PProg):List AVal:=[.slice (x.enums.map PEnum.cells) .free]++([.slice (x.nodes.map PNode.cells) .free])
def PProg.Small (x:PProg):Prop:=x.enums.length≤qac∧(∀y∈x.enums,PEnum.Small y)∧x.nodes.length≤qac∧(∀y∈x.nodes,PNode.Small y)
theorem PProg.ok (x:PProg):CellsOk 2 x.cells:=CellsOk.append ((show CellsOk 1 [.slice (x.enums.map PEnum.cells) .free]from⟨rfl,rfl,rfl,rfl,rfl⟩)) ((⟨rfl,rfl,rfl,rfl,rfl⟩:CellsOk 1 [.slice (x.nodes.map PNode.cells) .free]))
theorem PProg.len (x:PProg):x.cells.length=2:=x.ok.len
theorem PProg.ones (x:PProg):x.cells.all oneA=true:=x.ok.one
theorem PProg.pures (x:PProg):x.cells.all qcu=true:=x.ok.pure
theorem PProg.strip (x:PProg):x.cells.map qbj=x.cells:=x.ok.strip
theorem PProg.norefs (x:PProg):qad x.cells=[]:=x.ok.refs
theorem PProg.take (x:PProg):List.take 2 x.cells=x.cells:=by rw[wa];rw[x.len];exact wf _
theorem PProg.drop (x:PProg):List.drop 2 x.cells=[]:=by rw[←x.len,wc]
theorem PProg.takeA (x:PProg) (r:List AVal):List.take 2 (x.cells++r)=x.cells:=by rw[←x.len,wd]
theorem PProg.dropA (x:PProg) (r:List AVal):List.drop 2 (x.cells++r)=r:=by rw[←x.len,we]
theorem PProg.get_enums (x:PProg):x.cells[0]? =some (.slice (x.enums.map PEnum.cells) .free):=by
 unfold PProg.cells
 rfl
theorem PProg.get_nodes (x:PProg):x.cells[1]? =some (.slice (x.nodes.map PNode.cells) .free):=by
 unfold PProg.cells
 rfl
structure PTok where
 sort:Int
 text:Str
 n:Int
 line:Int
 col:Int
def PTok.cells (x:PTok):List AVal:=[.int .i64 x.sort]++([.str x.text]++([.int .i64 x.n]++([.int .i64 x.line]++([.int .i64 x.col]))))
def PTok.Small (x:PTok):Prop:=x.text.length≤qac
theorem PTok.ok (x:PTok):CellsOk 5 x.cells:=CellsOk.append ((show CellsOk 1 [.int .i64 x.sort]from⟨rfl,rfl,rfl,rfl,rfl⟩)) (CellsOk.append ((show CellsOk 1 [.str x.text]from⟨rfl,rfl,rfl,rfl,rfl⟩)) (CellsOk.append ((show CellsOk 1 [.int .i64 x.n]from⟨rfl,rfl,rfl,rfl,rfl⟩)) (CellsOk.append ((show CellsOk 1 [.int .i64 x.line]from⟨rfl,rfl,rfl,rfl,rfl⟩)) ((⟨rfl,rfl,rfl,rfl,rfl⟩:CellsOk 1 [.int .i64 x.col])))))
theorem PTok.len (x:PTok):x.cells.length=5:=x.ok.len
theorem PTok.ones (x:PTok):x.cells.all oneA=true:=x.ok.one
theorem PTok.pures (x:PTok):x.cells.all qcu=true:=x.ok.pure
theorem PTok.strip (x:PTok):x.cells.map qbj=x.cells:=x.ok.strip
theorem PTok.norefs (x:PTok):qad x.cells=[]:=x.ok.refs
theorem PTok.take (x:PTok):List.take 5 x.cells=x.cells:=by rw[wa];rw[x.len];exact wf _
theorem PTok.drop (x:PTok):List.drop 5 x.cells=[]:=by rw[←x.len,wc]
theorem PTok.takeA (x:PTok) (r:List AVal):List.take 5 (x.cells++r)=x.cells:=by rw[←x.len,wd]
theorem PTok.dropA (x:PTok) (r:List AVal):List.drop 5 (x.cells++r)=r:=by rw[←x.len,we]
theorem PTok.get_sort (x:PTok):x.cells[0]? =some (.int .i64 x.sort):=by
 unfold PTok.cells
 rfl
theorem PTok.get_text (x:PTok):x.cells[1]? =some (.str x.text):=by
 unfold PTok.cells
 rfl
theorem PTok.get_n (x:PTok):x.cells[2]? =some (.int .i64 x.n):=by
 unfold PTok.cells
 rfl
theorem PTok.get_line (x:PTok):x.cells[3]? =some (.int .i64 x.line):=by
 unfold PTok.cells
 rfl
theorem PTok.get_col (x:PTok):x.cells[4]? =some (.int .i64 x.col):=by
 unfold PTok.cells
 rfl
structure PFault where
 err:Int
 a:Int
 b:Int
def PFault.cells (x:PFault):List AVal:=[.int .i64 x.err]++([.int .i64 x.a]++([.int .i64 x.b]))
def PFault.Small (x:PFault):Prop:=x=x
theorem PFault.ok (x:PFault):CellsOk 3 x.cells:=CellsOk.append ((show CellsOk 1 [.int .i64 x.err]from⟨rfl,rfl,rfl,rfl,rfl⟩)) (CellsOk.append ((show CellsOk 1 [.int .i64 x.a]from⟨rfl,rfl,rfl,rfl,rfl⟩)) ((⟨rfl,rfl,rfl,rfl,rfl⟩:CellsOk 1 [.int .i64 x.b])))
theorem PFault.len (x:PFault):x.cells.length=3:=x.ok.len
theorem PFault.ones (x:PFault):x.cells.all oneA=true:=x.ok.one
theorem PFault.pures (x:PFault):x.cells.all qcu=true:=x.ok.pure
theorem PFault.strip (x:PFault):x.cells.map qbj=x.cells:=x.ok.strip
theorem PFault.norefs (x:PFault):qad x.cells=[]:=x.ok.refs
theorem PFault.take (x:PFault):List.take 3 x.cells=x.cells:=by rw[wa];rw[x.len];exact wf _
theorem PFault.drop (x:PFault):List.drop 3 x.cells=[]:=by rw[←x.len,wc]
theorem PFault.takeA (x:PFault) (r:List AVal):List.take 3 (x.cells++r)=x.cells:=by rw[←x.len,wd]
theorem PFault.dropA (x:PFault) (r:List AVal):List.drop 3 (x.cells++r)=r:=by rw[←x.len,we]
theorem PFault.get_err (x:PFault):x.cells[0]? =some (.int .i64 x.err):=by
 unfold PFault.cells
 rfl
theorem PFault.get_a (x:PFault):x.cells[1]? =some (.int .i64 x.a):=by
 unfold PFault.cells
 rfl
theorem PFault.get_b (x:PFault):x.cells[2]? =some (.int .i64 x.b):=by
 unfold PFault.cells
 rfl
abbrev ty:=Ji (Ji (Ji (Ji (Ji (Ji @PEq.len (Ji @PEq.ones @PEq.pures)) (Ji @PEq.strip (Ji @PEq.norefs @PEq.take))) (Ji (Ji @PEq.drop (Ji @PEq.takeA @PEq.dropA)) (Ji (Ji @PEq.get_names @PEq.sub_e) (Ji @PWay.len @PWay.ones)))) (Ji (Ji (Ji @PWay.pures (Ji @PWay.strip @PWay.norefs)) (Ji (Ji @PWay.take @PWay.drop) (Ji @PWay.takeA @PWay.dropA))) (Ji (Ji @PWay.sub_cond (Ji @PWay.sub0_cond @PWay.get_to)) (Ji (Ji @PState.len @PState.ones) (Ji @PState.pures @PState.strip))))) (Ji (Ji (Ji (Ji @PState.norefs (Ji @PState.take @PState.drop)) (Ji @PState.takeA (Ji @PState.dropA @PState.get_name))) (Ji (Ji @PState.get_eqs (Ji @PState.get_ways @PItem.len)) (Ji (Ji @PItem.ones @PItem.pures) (Ji @PItem.strip @PItem.norefs)))) (Ji (Ji (Ji @PItem.take (Ji @PItem.drop @PItem.takeA)) (Ji (Ji @PItem.dropA @PItem.sub_eq) (Ji @PItem.sub0_eq @PItem.get_states))) (Ji (Ji @PEnum.len (Ji @PEnum.ones @PEnum.pures)) (Ji (Ji @PEnum.strip @PEnum.norefs) (Ji @PEnum.take @PEnum.drop)))))) (Ji (Ji (Ji (Ji (Ji @PEnum.takeA (Ji @PEnum.dropA @PEnum.get_name)) (Ji @PEnum.get_cons (Ji @PNode.len @PNode.ones))) (Ji (Ji @PNode.pures (Ji @PNode.strip @PNode.norefs)) (Ji (Ji @PNode.take @PNode.drop) (Ji @PNode.takeA @PNode.dropA)))) (Ji (Ji (Ji @PNode.get_name (Ji @PNode.get_funs @PNode.get_ins)) (Ji (Ji @PNode.get_outs @PNode.get_items) (Ji @PProg.len @PProg.ones))) (Ji (Ji @PProg.pures (Ji @PProg.strip @PProg.norefs)) (Ji (Ji @PProg.take @PProg.drop) (Ji @PProg.takeA @PProg.dropA))))) (Ji (Ji (Ji (Ji @PProg.get_enums (Ji @PProg.get_nodes @PTok.len)) (Ji (Ji @PTok.ones @PTok.pures) (Ji @PTok.strip @PTok.norefs))) (Ji (Ji @PTok.take (Ji @PTok.drop @PTok.takeA)) (Ji (Ji @PTok.dropA @PTok.get_sort) (Ji @PTok.get_text @PTok.get_n)))) (Ji (Ji (Ji @PTok.get_line (Ji @PTok.get_col @PFault.len)) (Ji (Ji @PFault.ones @PFault.pures) (Ji @PFault.strip @PFault.norefs))) (Ji (Ji @PFault.take (Ji @PFault.drop @PFault.takeA)) (Ji (Ji @PFault.dropA @PFault.get_err) (Ji @PFault.get_a @PFault.get_b))))))
theorem qng {sz:Nat} {z cs:List AVal} (hz:z.length=sz) (k:CellsOk sz cs):row1 sz z (.agg cs)=some (.val (.slice [cs] .full) .same):=by
 have h1:qc6 (fun i=>some (i*sz,sz)) z [(0,.agg cs)]=some cs:=by
  simp only[qc6,AVal.cells,k.len,if_true,Nat.zero_mul]
  rw[qb7 (by rw[k.len,hz])]
 unfold row1
 rw[h1]
 simp only[bnd,chop,qe3]
 rw[wa (by rw[k.len];exact wf _),k.elem]
theorem qxm (q:PEq) (a b c d e f:AVal):row1 6 [a,b,c,d,e,f] (.agg q.cells)=some (.val (.slice [q.cells] .full) .same):=qng rfl q.ok
theorem quj (q:PWay) (a b c d e f:AVal):row1 6 [a,b,c,d,e,f] (.agg q.cells)=some (.val (.slice [q.cells] .full) .same):=qng rfl q.ok
theorem qit (q:PState) (a b c:AVal):row1 3 [a,b,c] (.agg q.cells)=some (.val (.slice [q.cells] .full) .same):=qng rfl q.ok
theorem qjy (q:PItem) (a b c d e f g:AVal):row1 7 [a,b,c,d,e,f,g] (.agg q.cells)=some (.val (.slice [q.cells] .full) .same):=qng rfl q.ok
theorem qvo (q:PNode) (a b c d e:AVal):row1 5 [a,b,c,d,e] (.agg q.cells)=some (.val (.slice [q.cells] .full) .same):=qng rfl q.ok
theorem qvp (q:PEnum) (a b:AVal):row1 2 [a,b] (.agg q.cells)=some (.val (.slice [q.cells] .full) .same):=qng rfl q.ok
abbrev rows:=Ji @qxm (Ji @quj (Ji @qit (Ji @qjy (Ji @qvo @qvp))))
end Go.Ab
namespace Go.Ab
open Go Go.Ab.Tab
def qet (z:Int):Bool:=decide (97≤z) && decide (z≤122)
def qd8 (z:Int):Bool:=decide (65≤z) && decide (z≤90)
def qby (z:Int):Bool:=decide (48≤z) && decide (z≤57)
def qba (z:Int):Bool:=qet z||qd8 z||qby z||z==95
theorem qyh (z:Int):Ret C 194 [.int .u8 z] (.bool (qet z)):=by
 refine Ret.mk rfl rfl ?_
 rw[C_fn rfl Tryz.func194 rfl (by kernel_rfl) (m:=8) rfl];simp only[Z3,simprocAttr,Tryz.f194,fx_194,qet]
 cases h:decide (97≤z)<;>simp only[Z3,simprocAttr,h]
theorem quk (z:Int):Ret C 195 [.int .u8 z] (.bool (qd8 z)):=by
 refine Ret.mk rfl rfl ?_
 rw[C_fn rfl Tryz.func195 rfl (by kernel_rfl) (m:=8) rfl];simp only[Z3,simprocAttr,Tryz.f195,fx_195,qd8]
 cases h:decide (65≤z)<;>simp only[Z3,simprocAttr,h]
theorem qyi (z:Int):Ret C 192 [.int .u8 z] (.bool (qby z)):=by
 refine Ret.mk rfl rfl ?_
 rw[C_fn rfl Tryz.func192 rfl (by kernel_rfl) (m:=8) rfl];simp only[Z3,simprocAttr,Tryz.f192,fx_192,qby]
 cases h:decide (48≤z)<;>simp only[Z3,simprocAttr,h]
theorem qyj (z:Int):Ret C 237 [.int .u8 z] (.bool (qba z)):=by
 refine Ret.mk rfl rfl ?_
 have e1:=qyh z
 have e2:=quk z
 have e3:=qyi z
 rw[C_fn rfl Tryz.func237 rfl (by kernel_rfl) (m:=16) rfl];simp only[Z3,simprocAttr,Tryz.f237,fx_237,e1 _,qba]
 cases h:qet z
 ·cases h2:qd8 z
  ·cases h3:qby z<;>simp only[Z3,simprocAttr,h,h2,h3,e2 _,e3 _]
  ·simp only[Z3,simprocAttr,h,h2,e2 _]
 ·simp only[Z3,simprocAttr,h]
def qay (p:Int→Bool):Str→Nat
 |[]=>0
 |c::r=>if p c.toNat then qay p r+1 else 0
theorem qft (p:Int→Bool):∀s:Str,qay p s≤s.length
 |[]=>wf _
 |c::r=>by
  have:=qft p r
  simp only[qay,wj]
  split<;>omega
theorem qp3 (p:Int→Bool) (f:FuncId) (hp:∀z,Ret C f [.int .u8 z] (.bool (p z))) (s:Str) (hs:s.length≤qac):Ret C 187 [.str s,.func f [] []] (.int .i64 (qay p s)):=by
 refine Ret.mk rfl rfl ?_
 rw[C_fn rfl Tryz.func187 rfl (by kernel_rfl) (m:=19) rfl];simp only[Z3,simprocAttr,Tryz.f187,qxg,hs]
 generalize hb:qam PP cmp0 C lpC _=f;generalize hl:lpC f _=r
 obtain⟨ex,s',rfl,h2⟩:=qeg (α:=Nat) hl [4,5,9,10,11,12,13,14,15,16,17,18] (fun i=>[(8,.int .i64 i)]) (fun i=>i≤s.length) (fun i=>s.length-i) (fun i=>i+qay p (s.drop i))
  (fun ts H r ex st=>(ex= .exit 0∧r=s.length∧At [4,5,8,9,10,11,12,13,14,15,16,17,18] ts H [] st)∨(ex= .ret∧At [5,8,9,10,11,12,13,14,15,16,17,18] ts H [(4,.int .i64 r)] st)) 0 (wu _) (by simp only[At,ats,wb]) (by
   intro i j H d hi
   clear hl;subst hb
   by_cases hlt:i<s.length
   ·have e1:((i:Int)<(s.length:Int)):=by omega
    have e3:s[i]? =some s[i]:=by simp[hlt]
    have e5:=hp s[i].toNat
    simp only[Z3,simprocAttr,qxg,e1,e3,e5 _]
    cases hc:p s[i].toNat
    ·simp only[Z3,simprocAttr]
     exact .inr ⟨_,_,rfl,by simp,.inr ⟨rfl,by simp only[wg hlt,qay,hc,At,ats];rfl⟩⟩
    ·simp only[Z3,simprocAttr,qaz (show i≤qac by omega)]
     exact .inl ⟨i+1,_,rfl,hlt,by simp only[At,ats,wb],by simp only[];omega,by simp only[wg hlt,qay,hc,if_true];omega⟩
   ·have e1:¬((i:Int)<(s.length:Int)):=by omega
    simp only[Z3,simprocAttr,qxg,e1]
    exact .inr ⟨_,_,rfl,by simp,.inl ⟨rfl,by simp only[];rw[wo (by omega)];simp only[qay];omega,by simp only[At,ats,wb]⟩⟩)
 rw[wh,Nat.zero_add]at h2
 rcases h2 with⟨rfl,hr,h2⟩|⟨rfl,h2⟩
 ·obtain⟨j,H,d,rfl⟩:=h2.elim
  clear hl
  simp only[Z3,simprocAttr,qxg,hr,hs]
 ·obtain⟨j,H,d,rfl⟩:=h2.elim
  clear hl
  simp only[Z3,simprocAttr]
def wordL:List Str:=[[116,121,112,101],[110,111,100,101],[119,104,101,114,101],[101,110,100],[97,117,116,111,109,97,116,111,110],[115,116,97,116,101],[117,110,116,105,108],[116,104,101,110],[105,102],[101,108,115,101],[102,98,121],[112,114,101],[110,111,116],[97,110,100],[111,114],[119,104,101,110],[109,101,114,103,101],[109,97,116,99,104],[101,118,101,114,121],[116,114,117,101],[102,97,108,115,101]]
theorem words_c:Ret C 267 [] (qag wordL):=Ret.mk rfl rfl (C_of (n:=5) (by kernel_rfl))
def idxN (s:Str):List Str→Nat→Int
 |[],_=> -1
 |x::r,i=>if s==x then(i:Int)else idxN s r (i+1)
theorem qvq (s:Str):∀(l:List Str) (i:Nat),decide (0≤idxN s l i)=l.any (s== ·)
 |[],i=>by simp[idxN]
 |x::r,i=>by
  by_cases h:(s==x)=true
  ·simp only[idxN,ww,h,if_true,Bool.true_or]
   exact decide_eq_true (Int.natCast_nonneg i)
  ·have h':(s==x)=false:=by simpa using h
   simp only[idxN,ww,h',Bool.false_or]
   exact qvq s r (i+1)
theorem index_c (l:List Str) (s:Str) (hl:l.length≤qac):Ret C 260 [qag l,.str s] (.int .i64 (idxN s l 0)):=by
 refine Ret.mk rfl rfl ?_
 rw[C_fn rfl Tryz.func260 rfl (by kernel_rfl) (m:=17) rfl];simp only[Z3,simprocAttr,Tryz.f260,qpy,qag]
 generalize hb:qam PP cmp0 C lpC _=f;generalize hl0:lpC f _=r
 obtain⟨ex,s',rfl,h2⟩:=qeg (α:=Nat) hl0 [4,5,9,10,11,12,13,14,15,16,17,18] (fun i=>[(8,.int .i64 i)]) (fun i=>i≤l.length) (fun i=>l.length-i) (fun i=>idxN s (l.drop i) i)
  (fun ts H r ex st=>(ex= .exit 0∧r= -1∧At [4,5,8,9,10,11,12,13,14,15,16,17,18] ts H [] st)∨(ex= .ret∧At [5,8,9,10,11,12,13,14,15,16,17,18] ts H [(4,.int .i64 r)] st)) 0 (wu _) (by simp only[At,ats,wb]) (by
   intro i j H d hi
   clear hl0;subst hb
   by_cases hlt:i<l.length
   ·have e1:((i:Int)<(l.length:Int)):=by omega
    have e3:=qir l i hlt
    simp only[Z3,simprocAttr,qpy,e1,e3]
    cases hc:s==l[i]
    ·simp only[Z3,simprocAttr,qaz (show i≤qac by omega)]
     exact .inl ⟨i+1,_,rfl,hlt,by simp only[At,ats,wb],by simp only[];omega,by simp only[wg hlt,idxN,hc];rfl⟩
    ·simp only[Z3,simprocAttr]
     exact .inr ⟨_,_,rfl,by simp,.inr ⟨rfl,by simp only[wg hlt,idxN,hc,if_true,At,ats]⟩⟩
   ·have e1:¬((i:Int)<(l.length:Int)):=by omega
    simp only[Z3,simprocAttr,qpy,e1]
    exact .inr ⟨_,_,rfl,by simp,.inl ⟨rfl,by simp only[];rw[wo (by omega)];rfl,by simp only[At,ats,wb]⟩⟩)
 rw[wh]at h2
 rcases h2 with⟨rfl,hr,h2⟩|⟨rfl,h2⟩
 ·obtain⟨j,H,d,rfl⟩:=h2.elim
  clear hl0
  simp only[Z3,simprocAttr,hr]
 ·obtain⟨j,H,d,rfl⟩:=h2.elim
  clear hl0
  simp only[Z3,simprocAttr]
theorem q5c (l:List Str) (s:Str) (hl:l.length≤qac):Ret C 230 [qag l,.str s] (.bool (l.any (s== ·))):=by
 refine Ret.mk rfl rfl ?_
 have e1:=index_c l s hl
 rw[C_fn rfl Tryz.func230 rfl (by kernel_rfl) (m:=7) rfl];simp only[Z3,simprocAttr,Tryz.f230,fx_230,e1 _,qvq]
theorem q1m (s:Str):Ret C 238 [.str s] (.bool (wordL.any (s== ·))):=by
 refine Ret.mk rfl rfl ?_
 have e0:=words_c
 have e1:=q5c wordL s (by decide)
 rw[C_fn rfl Tryz.func238 rfl (by kernel_rfl) (m:=5) rfl];simp only[Z3,simprocAttr,Tryz.f238,fx_238,e0 _,e1 _]
def qh8 (p:Int→Bool):Str→Bool
 |[]=>false
 |c::r=>decide ((c::r).length≤24) && p c.toNat && (qay qba (c::r)==(c::r).length)
theorem int_dec (a b:Nat):decide ((a:Int)≤(b:Int))=decide (a≤b):=by
 by_cases h:a≤b
 ·rw[decide_eq_true h,decide_eq_true (by omega)]
 ·rw[decide_eq_false h,decide_eq_false (by omega)]
theorem int_beq (a b:Nat):((a:Int)==(b:Int))=(a==b):=by
 by_cases h:a=b
 ·subst h;simp
 ·have h1:((a:Int)==(b:Int))=false:=by simp;omega
  have h2:(a==b)=false:=by simpa using h
  rw[h1,h2]
theorem q1n (p:Int→Bool) (f:FuncId) (hp:∀z,Ret C f [.int .u8 z] (.bool (p z))) (s:Str) (hs:s.length≤qac):Ret C 239 [.str s,.func f [] []] (.bool (qh8 p s)):=by
 refine Ret.mk rfl rfl ?_
 have e1:=qp3 qba 237 qyj s hs
 cases s with
 |nil=>rw[C_fn rfl Tryz.func239 rfl (by kernel_rfl) (m:=23) rfl];simp only[Z3,simprocAttr,Tryz.f239,qs6,qh8]
 |cons c r=>
  have e2:=hp c.toNat
  have e3:((c::r)==([]:Str))=false:=rfl
  have e4:decide (((r.length+1:Nat):Int)≤24)=decide (r.length+1≤24):=int_dec (r.length+1) 24
  have e5:=int_beq (qay qba (c::r)) (c::r).length
  have hs':=hs
  simp only[wj]at e5 hs'
  rw[C_fn rfl Tryz.func239 rfl (by kernel_rfl) (m:=23) rfl];simp only[Z3,simprocAttr,Tryz.f239,qs6,e3,e4,qh8,hs',hs]
  cases h1:decide (r.length≤23)
  ·simp only[Z3,simprocAttr,qs6,h1]
  cases h2:p c.toNat
  ·simp only[Z3,simprocAttr,qs6,h1,h2,e2 _]
  ·simp only[Z3,simprocAttr,qs6,h1,h2,e2 _,e1 _,hs',e5]
def qdv (s:Str):Bool:=qh8 qet s && !(wordL.any (s== ·))
def qiu (s:Str):Bool:=qh8 qd8 s
theorem isName_c (s:Str) (hs:s.length≤qac):Ret C 201 [.str s] (.bool (qdv s)):=by
 refine Ret.mk rfl rfl ?_
 have e1:=q1n qet 194 qyh s hs
 have e2:=q1m s
 rw[C_fn rfl Tryz.func201 rfl (by kernel_rfl) (m:=9) rfl];simp only[Z3,simprocAttr,Tryz.f201,fx_201,e1 _,qdv]
 cases h1:qh8 qet s
 ·simp only[Z3,simprocAttr,fx_201,h1]
 ·simp only[Z3,simprocAttr,fx_201,h1,e2 _]
theorem isCon_c (s:Str) (hs:s.length≤qac):Ret C 205 [.str s] (.bool (qiu s)):=by
 refine Ret.mk rfl rfl ?_
 have e1:=q1n qd8 195 quk s hs
 rw[C_fn rfl Tryz.func205 rfl (by kernel_rfl) (m:=4) rfl];simp only[Z3,simprocAttr,Tryz.f205,fx_205,e1 _,qiu]
end Go.Ab
namespace Go.Ab
open Go Go.Ab.Tab
def adv (p:Nat×Nat) (c:UInt8):Nat×Nat:=if c=10 then(p.1+1,1)else(p.1,p.2+1)
def plc (s:Str):Nat×Nat:=s.foldl adv (1,1)
theorem plc_snoc (s:Str) (c:UInt8):plc (s++[c])=adv (plc s) c:=by simp[plc]
theorem plc_le (s:Str):(plc s).1≤s.length+1∧(plc s).2≤s.length+1:=by
 have key:∀(s:Str) (p:Nat×Nat),(s.foldl adv p).1≤p.1+s.length∧(s.foldl adv p).2≤max p.2 1+s.length:=by
  intro s
  induction s with
  |nil=>intro p;simp;omega
  |cons c r ih=>
   intro p
   have h:=ih (adv p c)
   simp only[List.foldl_cons,wj]
   unfold adv at h ⊢
   by_cases hc:c=10
   ·rw[if_pos hc]at h ⊢;simp only at h ⊢;omega
   ·rw[if_neg hc]at h ⊢;simp only at h ⊢;omega
 have:=key s (1,1)
 simp only at this
 unfold plc;omega
def qdc (text:Str) (k:Nat):List AVal:=[.str text,.int .i64 k,.int .i64 (plc (text.take k)).1,.int .i64 (plc (text.take k)).2]
theorem qxn (n:Nat) (text:Str) (k:Nat) (h:qab) (b:Nat) (hb:h[b]? =some (.box (qdc text k))):qih n h b:=
 qzi n h b _ hb (fun v hv=>by
  simp only[qdc,List.mem_cons,List.not_mem_nil,or_false]at hv
  rcases hv with rfl|rfl|rfl|rfl
  ·exact .inr (.inl ⟨_,rfl⟩)
  ·exact .inl ⟨_,_,rfl⟩
  ·exact .inl ⟨_,_,rfl⟩
  ·exact .inl ⟨_,_,rfl⟩)
theorem byte10 (c:UInt8):((c.toNat:Int)==10)=decide (c=10):=by
 by_cases h:c=10
 ·subst h;rfl
 ·have:c.toNat≠10:=fun e=>h (UInt8.toNat_inj.1 (by rw[e];rfl))
  simp only[h,decide_false,beq_eq_false_iff_ne,ne_eq];omega
theorem skip_c (text:Str) (hT:text.length≤65536) (k n:Nat) (hn:k+n≤text.length):qbi C 129 [.ptr 0 0,.int .i64 n] [.box (qdc text k)] (.tuple []) [.box (qdc text (k+n))]:=by
 refine qa6 rfl Tryz.func129 rfl (by kernel_rfl) (m:=41) rfl ?_;simp only[Z3,simprocAttr,Tryz.f129,qxe]
 generalize hb:qam PP cmp0 C lpC _=f;generalize hl:lpC f _=r
 obtain⟨ex,s',rfl,rfl,h2⟩:=qes (α:=Nat) hl [6,7,8,9,10,11,12,13,14,15,16,17,18,19,20,21,22,23,24,25,26,27,28,29,30,31,32,33,34,35,36,37,38,39,40,41,42] (fun i=>[(5,.int .i64 i)]) (fun i=>[.box (qdc text (k+i))]) (fun i=>i≤n) (fun i=>n-i) (fun _=>())
  (fun ts _ ex s=>ex= .exit 0∧At [6,7,8,9,10,11,12,13,14,15,16,17,18,19,20,21,22,23,24,25,26,27,28,29,30,31,32,33,34,35,36,37,38,39,40,41,42] ts [.box (qdc text (k+n))] [(5,.int .i64 n)] s) 0 (wu _) (At.of [] (by simp only[ats,wb]) (by simp only[List.append_nil,Nat.add_zero])) (by
   intro i j H d hi
   clear hl;subst hb
   by_cases hlt:i<n
   ·have e1:((i:Int)<(n:Int)):=by omega
    have hk:k+i<text.length:=by omega
    have e2:text[k+i]? =some text[k+i]:=List.getElem?_eq_getElem hk
    have hpl:=plc_le (text.take (k+i))
    have hln:(text.take (k+i)).length≤65536:=by rw[List.length_take];omega
    have w1:=qaz (show(plc (text.take (k+i))).2≤qac by unfold qac;omega)
    have w2:=qaz (show(plc (text.take (k+i))).1≤qac by unfold qac;omega)
    have w3:=qaz (show k+i≤qac by unfold qac;omega)
    have w4:=qaz (show i≤qac by unfold qac;omega)
    have hst:plc (text.take (k+i+1))=adv (plc (text.take (k+i))) text[k+i]:=by
     rw[List.take_succ_eq_append_getElem hk,plc_snoc]
    have hcell:qdc text (k+(i+1))=[.str text,.int .i64 ((k+i+1:Nat):Int),.int .i64 ((adv (plc (text.take (k+i))) text[k+i]).1:Nat),.int .i64 ((adv (plc (text.take (k+i))) text[k+i]).2:Nat)]:=by
     rw[←Nat.add_assoc];unfold qdc;rw[hst]
    cases hc:decide (text[k+i]=10)
    ·simp only[Z3,simprocAttr,effs,qxe,qdc,e1,e2,w1,w2,w3,w4,byte10,hc]
     refine .inl ⟨i+1,_,rfl,hlt,?_,wt hlt (wv i),trivial⟩
     have hc':¬text[k+i]=10:=by simpa using hc
     unfold adv qdc at hcell
     rw[if_neg hc']at hcell
     rw[hcell]
     exact At.of _ (by simp only[ats,wb]) (by simp only[wk,wi,wm];rfl)
    ·simp only[Z3,simprocAttr,effs,qxe,qdc,e1,e2,w1,w2,w3,w4,byte10,hc]
     refine .inl ⟨i+1,_,rfl,hlt,?_,wt hlt (wv i),trivial⟩
     have hc':text[k+i]=10:=by simpa using hc
     unfold adv qdc at hcell
     rw[if_pos hc']at hcell
     rw[hcell]
     exact At.of _ (by simp only[ats,wb]) (by simp only[wk,wi,wm];rfl)
   ·have e1:¬((i:Int)<(n:Int)):=by omega
    have hin:i=n:=by omega
    subst hin
    simp only[Z3,simprocAttr,qxe,e1]
    exact .inr ⟨_,_,rfl,by simp,rfl,At.of _ (by simp only[ats,wb]) (by simp only[wk,wi,wm];rfl)⟩)
 obtain⟨j,H,d,rfl⟩:=h2.elim
 clear hl
 exact qcy (.inr rfl) rfl rfl rfl (fun b hb=>by
  obtain rfl:b=0:=Nat.lt_one_iff.1 hb
  exact qxn _ text (k+n) _ _ rfl) rfl
end Go.Ab
