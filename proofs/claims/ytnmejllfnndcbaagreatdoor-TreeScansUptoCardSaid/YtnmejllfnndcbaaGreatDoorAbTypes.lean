/- The project's structs, how they lie in the evaluator, and what simp knows of them. -/
import Derived.Test.YtnmejllfnndcbaaGreatDoorAbSim
import Derived.Test.YtnmejllfnndcbaaGreatDoorAbSize
import Derived.Test.YtnmejllfnndcbaaGreatDoorAbBox
import Derived.Test.YtnmejllfnndcbaaGreatDoorAbObj
set_option linter.unusedSimpArgs false
set_option linter.unusedVariables false
namespace Go.Ab
structure PEq where
  names : List Str
  e : PExpr
def PEq.cells (x : PEq) : List AVal := [encStrs x.names] ++ (x.e.cells)
def PEq.Small (x : PEq) : Prop := StrsSmall x.names ∧ x.e.Small
theorem PEq.ok (x : PEq) : CellsOk 6 x.cells := CellsOk.append ((show CellsOk 1 [encStrs x.names] from ⟨rfl, rfl, rfl, rfl, rfl⟩)) (x.e.ok)
theorem PEq.len (x : PEq) : x.cells.length = 6 := x.ok.len
theorem PEq.ones (x : PEq) : x.cells.all oneA = true := x.ok.one
theorem PEq.pures (x : PEq) : x.cells.all pureA = true := x.ok.pure
theorem PEq.strip (x : PEq) : x.cells.map strip0 = x.cells := x.ok.strip
theorem PEq.norefs (x : PEq) : refsL x.cells = [] := x.ok.refs
theorem PEq.take (x : PEq) : List.take 6 x.cells = x.cells := by rw [List.take_of_length_le]; rw [x.len]; exact Nat.le_refl _
theorem PEq.drop (x : PEq) : List.drop 6 x.cells = [] := by rw [← x.len, List.drop_length]
theorem PEq.takeA (x : PEq) (r : List AVal) : List.take 6 (x.cells ++ r) = x.cells := by rw [← x.len, List.take_left]
theorem PEq.dropA (x : PEq) (r : List AVal) : List.drop 6 (x.cells ++ r) = r := by rw [← x.len, List.drop_left]
theorem PEq.get_names (x : PEq) : x.cells[0]? = some (encStrs x.names) := by
  unfold PEq.cells
  rfl
theorem PEq.sub_e (x : PEq) : List.take 5 (List.drop 1 x.cells) = x.e.cells := by
  unfold PEq.cells
  exact x.e.take
structure PWay where
  cond : PExpr
  to : Str
def PWay.cells (x : PWay) : List AVal := x.cond.cells ++ ([.str x.to])
def PWay.Small (x : PWay) : Prop := x.cond.Small ∧ x.to.length ≤ lenTop
theorem PWay.ok (x : PWay) : CellsOk 6 x.cells := CellsOk.append (x.cond.ok) ((⟨rfl, rfl, rfl, rfl, rfl⟩ : CellsOk 1 [.str x.to]))
theorem PWay.len (x : PWay) : x.cells.length = 6 := x.ok.len
theorem PWay.ones (x : PWay) : x.cells.all oneA = true := x.ok.one
theorem PWay.pures (x : PWay) : x.cells.all pureA = true := x.ok.pure
theorem PWay.strip (x : PWay) : x.cells.map strip0 = x.cells := x.ok.strip
theorem PWay.norefs (x : PWay) : refsL x.cells = [] := x.ok.refs
theorem PWay.take (x : PWay) : List.take 6 x.cells = x.cells := by rw [List.take_of_length_le]; rw [x.len]; exact Nat.le_refl _
theorem PWay.drop (x : PWay) : List.drop 6 x.cells = [] := by rw [← x.len, List.drop_length]
theorem PWay.takeA (x : PWay) (r : List AVal) : List.take 6 (x.cells ++ r) = x.cells := by rw [← x.len, List.take_left]
theorem PWay.dropA (x : PWay) (r : List AVal) : List.drop 6 (x.cells ++ r) = r := by rw [← x.len, List.drop_left]
theorem PWay.sub_cond (x : PWay) : List.take 5 (List.drop 0 x.cells) = x.cond.cells := by
  unfold PWay.cells
  rw [List.drop_zero]; exact x.cond.takeA _
theorem PWay.sub0_cond (x : PWay) : List.take 5 x.cells = x.cond.cells := by
  unfold PWay.cells
  exact x.cond.takeA _
theorem PWay.get_to (x : PWay) : x.cells[5]? = some (.str x.to) := by
  unfold PWay.cells
  simp [List.getElem?_append, x.cond.len]
structure PState where
  name : Str
  eqs : List PEq
  ways : List PWay
def PState.cells (x : PState) : List AVal := [.str x.name] ++ ([.slice (x.eqs.map PEq.cells) .free] ++ ([.slice (x.ways.map PWay.cells) .free]))
def PState.Small (x : PState) : Prop := x.name.length ≤ lenTop ∧ x.eqs.length ≤ lenTop ∧ (∀ y ∈ x.eqs, PEq.Small y) ∧ x.ways.length ≤ lenTop ∧ (∀ y ∈ x.ways, PWay.Small y)
theorem PState.ok (x : PState) : CellsOk 3 x.cells := CellsOk.append ((show CellsOk 1 [.str x.name] from ⟨rfl, rfl, rfl, rfl, rfl⟩)) (CellsOk.append ((show CellsOk 1 [.slice (x.eqs.map PEq.cells) .free] from ⟨rfl, rfl, rfl, rfl, rfl⟩)) ((⟨rfl, rfl, rfl, rfl, rfl⟩ : CellsOk 1 [.slice (x.ways.map PWay.cells) .free])))
theorem PState.len (x : PState) : x.cells.length = 3 := x.ok.len
theorem PState.ones (x : PState) : x.cells.all oneA = true := x.ok.one
theorem PState.pures (x : PState) : x.cells.all pureA = true := x.ok.pure
theorem PState.strip (x : PState) : x.cells.map strip0 = x.cells := x.ok.strip
theorem PState.norefs (x : PState) : refsL x.cells = [] := x.ok.refs
theorem PState.take (x : PState) : List.take 3 x.cells = x.cells := by rw [List.take_of_length_le]; rw [x.len]; exact Nat.le_refl _
theorem PState.drop (x : PState) : List.drop 3 x.cells = [] := by rw [← x.len, List.drop_length]
theorem PState.takeA (x : PState) (r : List AVal) : List.take 3 (x.cells ++ r) = x.cells := by rw [← x.len, List.take_left]
theorem PState.dropA (x : PState) (r : List AVal) : List.drop 3 (x.cells ++ r) = r := by rw [← x.len, List.drop_left]
theorem PState.get_name (x : PState) : x.cells[0]? = some (.str x.name) := by
  unfold PState.cells
  rfl
theorem PState.get_eqs (x : PState) : x.cells[1]? = some (.slice (x.eqs.map PEq.cells) .free) := by
  unfold PState.cells
  rfl
theorem PState.get_ways (x : PState) : x.cells[2]? = some (.slice (x.ways.map PWay.cells) .free) := by
  unfold PState.cells
  rfl
structure PItem where
  eq : PEq
  states : List PState
def PItem.cells (x : PItem) : List AVal := x.eq.cells ++ ([.slice (x.states.map PState.cells) .free])
def PItem.Small (x : PItem) : Prop := x.eq.Small ∧ x.states.length ≤ lenTop ∧ (∀ y ∈ x.states, PState.Small y)
theorem PItem.ok (x : PItem) : CellsOk 7 x.cells := CellsOk.append (x.eq.ok) ((⟨rfl, rfl, rfl, rfl, rfl⟩ : CellsOk 1 [.slice (x.states.map PState.cells) .free]))
theorem PItem.len (x : PItem) : x.cells.length = 7 := x.ok.len
theorem PItem.ones (x : PItem) : x.cells.all oneA = true := x.ok.one
theorem PItem.pures (x : PItem) : x.cells.all pureA = true := x.ok.pure
theorem PItem.strip (x : PItem) : x.cells.map strip0 = x.cells := x.ok.strip
theorem PItem.norefs (x : PItem) : refsL x.cells = [] := x.ok.refs
theorem PItem.take (x : PItem) : List.take 7 x.cells = x.cells := by rw [List.take_of_length_le]; rw [x.len]; exact Nat.le_refl _
theorem PItem.drop (x : PItem) : List.drop 7 x.cells = [] := by rw [← x.len, List.drop_length]
theorem PItem.takeA (x : PItem) (r : List AVal) : List.take 7 (x.cells ++ r) = x.cells := by rw [← x.len, List.take_left]
theorem PItem.dropA (x : PItem) (r : List AVal) : List.drop 7 (x.cells ++ r) = r := by rw [← x.len, List.drop_left]
theorem PItem.sub_eq (x : PItem) : List.take 6 (List.drop 0 x.cells) = x.eq.cells := by
  unfold PItem.cells
  rw [List.drop_zero]; exact x.eq.takeA _
theorem PItem.sub0_eq (x : PItem) : List.take 6 x.cells = x.eq.cells := by
  unfold PItem.cells
  exact x.eq.takeA _
theorem PItem.get_states (x : PItem) : x.cells[6]? = some (.slice (x.states.map PState.cells) .free) := by
  unfold PItem.cells
  simp [List.getElem?_append, x.eq.len]
structure PEnum where
  name : Str
  cons : List Str
def PEnum.cells (x : PEnum) : List AVal := [.str x.name] ++ ([encStrs x.cons])
def PEnum.Small (x : PEnum) : Prop := x.name.length ≤ lenTop ∧ StrsSmall x.cons
theorem PEnum.ok (x : PEnum) : CellsOk 2 x.cells := CellsOk.append ((show CellsOk 1 [.str x.name] from ⟨rfl, rfl, rfl, rfl, rfl⟩)) ((⟨rfl, rfl, rfl, rfl, rfl⟩ : CellsOk 1 [encStrs x.cons]))
theorem PEnum.len (x : PEnum) : x.cells.length = 2 := x.ok.len
theorem PEnum.ones (x : PEnum) : x.cells.all oneA = true := x.ok.one
theorem PEnum.pures (x : PEnum) : x.cells.all pureA = true := x.ok.pure
theorem PEnum.strip (x : PEnum) : x.cells.map strip0 = x.cells := x.ok.strip
theorem PEnum.norefs (x : PEnum) : refsL x.cells = [] := x.ok.refs
theorem PEnum.take (x : PEnum) : List.take 2 x.cells = x.cells := by rw [List.take_of_length_le]; rw [x.len]; exact Nat.le_refl _
theorem PEnum.drop (x : PEnum) : List.drop 2 x.cells = [] := by rw [← x.len, List.drop_length]
theorem PEnum.takeA (x : PEnum) (r : List AVal) : List.take 2 (x.cells ++ r) = x.cells := by rw [← x.len, List.take_left]
theorem PEnum.dropA (x : PEnum) (r : List AVal) : List.drop 2 (x.cells ++ r) = r := by rw [← x.len, List.drop_left]
theorem PEnum.get_name (x : PEnum) : x.cells[0]? = some (.str x.name) := by
  unfold PEnum.cells
  rfl
theorem PEnum.get_cons (x : PEnum) : x.cells[1]? = some (encStrs x.cons) := by
  unfold PEnum.cells
  rfl
structure PNode where
  name : Str
  funs : List Str
  ins : List Str
  outs : List Str
  items : List PItem
def PNode.cells (x : PNode) : List AVal := [.str x.name] ++ ([encStrs x.funs] ++ ([encStrs x.ins] ++ ([encStrs x.outs] ++ ([.slice (x.items.map PItem.cells) .free]))))
def PNode.Small (x : PNode) : Prop := x.name.length ≤ lenTop ∧ StrsSmall x.funs ∧ StrsSmall x.ins ∧ StrsSmall x.outs ∧ x.items.length ≤ lenTop ∧ (∀ y ∈ x.items, PItem.Small y)
theorem PNode.ok (x : PNode) : CellsOk 5 x.cells := CellsOk.append ((show CellsOk 1 [.str x.name] from ⟨rfl, rfl, rfl, rfl, rfl⟩)) (CellsOk.append ((show CellsOk 1 [encStrs x.funs] from ⟨rfl, rfl, rfl, rfl, rfl⟩)) (CellsOk.append ((show CellsOk 1 [encStrs x.ins] from ⟨rfl, rfl, rfl, rfl, rfl⟩)) (CellsOk.append ((show CellsOk 1 [encStrs x.outs] from ⟨rfl, rfl, rfl, rfl, rfl⟩)) ((⟨rfl, rfl, rfl, rfl, rfl⟩ : CellsOk 1 [.slice (x.items.map PItem.cells) .free])))))
theorem PNode.len (x : PNode) : x.cells.length = 5 := x.ok.len
theorem PNode.ones (x : PNode) : x.cells.all oneA = true := x.ok.one
theorem PNode.pures (x : PNode) : x.cells.all pureA = true := x.ok.pure
theorem PNode.strip (x : PNode) : x.cells.map strip0 = x.cells := x.ok.strip
theorem PNode.norefs (x : PNode) : refsL x.cells = [] := x.ok.refs
theorem PNode.take (x : PNode) : List.take 5 x.cells = x.cells := by rw [List.take_of_length_le]; rw [x.len]; exact Nat.le_refl _
theorem PNode.drop (x : PNode) : List.drop 5 x.cells = [] := by rw [← x.len, List.drop_length]
theorem PNode.takeA (x : PNode) (r : List AVal) : List.take 5 (x.cells ++ r) = x.cells := by rw [← x.len, List.take_left]
theorem PNode.dropA (x : PNode) (r : List AVal) : List.drop 5 (x.cells ++ r) = r := by rw [← x.len, List.drop_left]
theorem PNode.get_name (x : PNode) : x.cells[0]? = some (.str x.name) := by
  unfold PNode.cells
  rfl
theorem PNode.get_funs (x : PNode) : x.cells[1]? = some (encStrs x.funs) := by
  unfold PNode.cells
  rfl
theorem PNode.get_ins (x : PNode) : x.cells[2]? = some (encStrs x.ins) := by
  unfold PNode.cells
  rfl
theorem PNode.get_outs (x : PNode) : x.cells[3]? = some (encStrs x.outs) := by
  unfold PNode.cells
  rfl
theorem PNode.get_items (x : PNode) : x.cells[4]? = some (.slice (x.items.map PItem.cells) .free) := by
  unfold PNode.cells
  rfl
structure PProg where
  enums : List PEnum
  nodes : List PNode
def PProg.cells (x : PProg) : List AVal := [.slice (x.enums.map PEnum.cells) .free] ++ ([.slice (x.nodes.map PNode.cells) .free])
def PProg.Small (x : PProg) : Prop := x.enums.length ≤ lenTop ∧ (∀ y ∈ x.enums, PEnum.Small y) ∧ x.nodes.length ≤ lenTop ∧ (∀ y ∈ x.nodes, PNode.Small y)
theorem PProg.ok (x : PProg) : CellsOk 2 x.cells := CellsOk.append ((show CellsOk 1 [.slice (x.enums.map PEnum.cells) .free] from ⟨rfl, rfl, rfl, rfl, rfl⟩)) ((⟨rfl, rfl, rfl, rfl, rfl⟩ : CellsOk 1 [.slice (x.nodes.map PNode.cells) .free]))
theorem PProg.len (x : PProg) : x.cells.length = 2 := x.ok.len
theorem PProg.ones (x : PProg) : x.cells.all oneA = true := x.ok.one
theorem PProg.pures (x : PProg) : x.cells.all pureA = true := x.ok.pure
theorem PProg.strip (x : PProg) : x.cells.map strip0 = x.cells := x.ok.strip
theorem PProg.norefs (x : PProg) : refsL x.cells = [] := x.ok.refs
theorem PProg.take (x : PProg) : List.take 2 x.cells = x.cells := by rw [List.take_of_length_le]; rw [x.len]; exact Nat.le_refl _
theorem PProg.drop (x : PProg) : List.drop 2 x.cells = [] := by rw [← x.len, List.drop_length]
theorem PProg.takeA (x : PProg) (r : List AVal) : List.take 2 (x.cells ++ r) = x.cells := by rw [← x.len, List.take_left]
theorem PProg.dropA (x : PProg) (r : List AVal) : List.drop 2 (x.cells ++ r) = r := by rw [← x.len, List.drop_left]
theorem PProg.get_enums (x : PProg) : x.cells[0]? = some (.slice (x.enums.map PEnum.cells) .free) := by
  unfold PProg.cells
  rfl
theorem PProg.get_nodes (x : PProg) : x.cells[1]? = some (.slice (x.nodes.map PNode.cells) .free) := by
  unfold PProg.cells
  rfl
structure PTok where
  sort : Int
  text : Str
  n : Int
  line : Int
  col : Int
def PTok.cells (x : PTok) : List AVal := [.int .i64 x.sort] ++ ([.str x.text] ++ ([.int .i64 x.n] ++ ([.int .i64 x.line] ++ ([.int .i64 x.col]))))
def PTok.Small (x : PTok) : Prop := x.text.length ≤ lenTop
theorem PTok.ok (x : PTok) : CellsOk 5 x.cells := CellsOk.append ((show CellsOk 1 [.int .i64 x.sort] from ⟨rfl, rfl, rfl, rfl, rfl⟩)) (CellsOk.append ((show CellsOk 1 [.str x.text] from ⟨rfl, rfl, rfl, rfl, rfl⟩)) (CellsOk.append ((show CellsOk 1 [.int .i64 x.n] from ⟨rfl, rfl, rfl, rfl, rfl⟩)) (CellsOk.append ((show CellsOk 1 [.int .i64 x.line] from ⟨rfl, rfl, rfl, rfl, rfl⟩)) ((⟨rfl, rfl, rfl, rfl, rfl⟩ : CellsOk 1 [.int .i64 x.col])))))
theorem PTok.len (x : PTok) : x.cells.length = 5 := x.ok.len
theorem PTok.ones (x : PTok) : x.cells.all oneA = true := x.ok.one
theorem PTok.pures (x : PTok) : x.cells.all pureA = true := x.ok.pure
theorem PTok.strip (x : PTok) : x.cells.map strip0 = x.cells := x.ok.strip
theorem PTok.norefs (x : PTok) : refsL x.cells = [] := x.ok.refs
theorem PTok.take (x : PTok) : List.take 5 x.cells = x.cells := by rw [List.take_of_length_le]; rw [x.len]; exact Nat.le_refl _
theorem PTok.drop (x : PTok) : List.drop 5 x.cells = [] := by rw [← x.len, List.drop_length]
theorem PTok.takeA (x : PTok) (r : List AVal) : List.take 5 (x.cells ++ r) = x.cells := by rw [← x.len, List.take_left]
theorem PTok.dropA (x : PTok) (r : List AVal) : List.drop 5 (x.cells ++ r) = r := by rw [← x.len, List.drop_left]
theorem PTok.get_sort (x : PTok) : x.cells[0]? = some (.int .i64 x.sort) := by
  unfold PTok.cells
  rfl
theorem PTok.get_text (x : PTok) : x.cells[1]? = some (.str x.text) := by
  unfold PTok.cells
  rfl
theorem PTok.get_n (x : PTok) : x.cells[2]? = some (.int .i64 x.n) := by
  unfold PTok.cells
  rfl
theorem PTok.get_line (x : PTok) : x.cells[3]? = some (.int .i64 x.line) := by
  unfold PTok.cells
  rfl
theorem PTok.get_col (x : PTok) : x.cells[4]? = some (.int .i64 x.col) := by
  unfold PTok.cells
  rfl
structure PFault where
  err : Int
  a : Int
  b : Int
def PFault.cells (x : PFault) : List AVal := [.int .i64 x.err] ++ ([.int .i64 x.a] ++ ([.int .i64 x.b]))
def PFault.Small (x : PFault) : Prop := x = x
theorem PFault.ok (x : PFault) : CellsOk 3 x.cells := CellsOk.append ((show CellsOk 1 [.int .i64 x.err] from ⟨rfl, rfl, rfl, rfl, rfl⟩)) (CellsOk.append ((show CellsOk 1 [.int .i64 x.a] from ⟨rfl, rfl, rfl, rfl, rfl⟩)) ((⟨rfl, rfl, rfl, rfl, rfl⟩ : CellsOk 1 [.int .i64 x.b])))
theorem PFault.len (x : PFault) : x.cells.length = 3 := x.ok.len
theorem PFault.ones (x : PFault) : x.cells.all oneA = true := x.ok.one
theorem PFault.pures (x : PFault) : x.cells.all pureA = true := x.ok.pure
theorem PFault.strip (x : PFault) : x.cells.map strip0 = x.cells := x.ok.strip
theorem PFault.norefs (x : PFault) : refsL x.cells = [] := x.ok.refs
theorem PFault.take (x : PFault) : List.take 3 x.cells = x.cells := by rw [List.take_of_length_le]; rw [x.len]; exact Nat.le_refl _
theorem PFault.drop (x : PFault) : List.drop 3 x.cells = [] := by rw [← x.len, List.drop_length]
theorem PFault.takeA (x : PFault) (r : List AVal) : List.take 3 (x.cells ++ r) = x.cells := by rw [← x.len, List.take_left]
theorem PFault.dropA (x : PFault) (r : List AVal) : List.drop 3 (x.cells ++ r) = r := by rw [← x.len, List.drop_left]
theorem PFault.get_err (x : PFault) : x.cells[0]? = some (.int .i64 x.err) := by
  unfold PFault.cells
  rfl
theorem PFault.get_a (x : PFault) : x.cells[1]? = some (.int .i64 x.a) := by
  unfold PFault.cells
  rfl
theorem PFault.get_b (x : PFault) : x.cells[2]? = some (.int .i64 x.b) := by
  unfold PFault.cells
  rfl
theorem ty : type_of% (And.intro (And.intro (And.intro (And.intro (And.intro (And.intro (@PEq.len) (And.intro (@PEq.ones) (@PEq.pures))) (And.intro (@PEq.strip) (And.intro (@PEq.norefs) (@PEq.take)))) (And.intro (And.intro (@PEq.drop) (And.intro (@PEq.takeA) (@PEq.dropA))) (And.intro (And.intro (@PEq.get_names) (@PEq.sub_e)) (And.intro (@PWay.len) (@PWay.ones))))) (And.intro (And.intro (And.intro (@PWay.pures) (And.intro (@PWay.strip) (@PWay.norefs))) (And.intro (And.intro (@PWay.take) (@PWay.drop)) (And.intro (@PWay.takeA) (@PWay.dropA)))) (And.intro (And.intro (@PWay.sub_cond) (And.intro (@PWay.sub0_cond) (@PWay.get_to))) (And.intro (And.intro (@PState.len) (@PState.ones)) (And.intro (@PState.pures) (@PState.strip)))))) (And.intro (And.intro (And.intro (And.intro (@PState.norefs) (And.intro (@PState.take) (@PState.drop))) (And.intro (@PState.takeA) (And.intro (@PState.dropA) (@PState.get_name)))) (And.intro (And.intro (@PState.get_eqs) (And.intro (@PState.get_ways) (@PItem.len))) (And.intro (And.intro (@PItem.ones) (@PItem.pures)) (And.intro (@PItem.strip) (@PItem.norefs))))) (And.intro (And.intro (And.intro (@PItem.take) (And.intro (@PItem.drop) (@PItem.takeA))) (And.intro (And.intro (@PItem.dropA) (@PItem.sub_eq)) (And.intro (@PItem.sub0_eq) (@PItem.get_states)))) (And.intro (And.intro (@PEnum.len) (And.intro (@PEnum.ones) (@PEnum.pures))) (And.intro (And.intro (@PEnum.strip) (@PEnum.norefs)) (And.intro (@PEnum.take) (@PEnum.drop))))))) (And.intro (And.intro (And.intro (And.intro (And.intro (@PEnum.takeA) (And.intro (@PEnum.dropA) (@PEnum.get_name))) (And.intro (@PEnum.get_cons) (And.intro (@PNode.len) (@PNode.ones)))) (And.intro (And.intro (@PNode.pures) (And.intro (@PNode.strip) (@PNode.norefs))) (And.intro (And.intro (@PNode.take) (@PNode.drop)) (And.intro (@PNode.takeA) (@PNode.dropA))))) (And.intro (And.intro (And.intro (@PNode.get_name) (And.intro (@PNode.get_funs) (@PNode.get_ins))) (And.intro (And.intro (@PNode.get_outs) (@PNode.get_items)) (And.intro (@PProg.len) (@PProg.ones)))) (And.intro (And.intro (@PProg.pures) (And.intro (@PProg.strip) (@PProg.norefs))) (And.intro (And.intro (@PProg.take) (@PProg.drop)) (And.intro (@PProg.takeA) (@PProg.dropA)))))) (And.intro (And.intro (And.intro (And.intro (@PProg.get_enums) (And.intro (@PProg.get_nodes) (@PTok.len))) (And.intro (And.intro (@PTok.ones) (@PTok.pures)) (And.intro (@PTok.strip) (@PTok.norefs)))) (And.intro (And.intro (@PTok.take) (And.intro (@PTok.drop) (@PTok.takeA))) (And.intro (And.intro (@PTok.dropA) (@PTok.get_sort)) (And.intro (@PTok.get_text) (@PTok.get_n))))) (And.intro (And.intro (And.intro (@PTok.get_line) (And.intro (@PTok.get_col) (@PFault.len))) (And.intro (And.intro (@PFault.ones) (@PFault.pures)) (And.intro (@PFault.strip) (@PFault.norefs)))) (And.intro (And.intro (@PFault.take) (And.intro (@PFault.drop) (@PFault.takeA))) (And.intro (And.intro (@PFault.dropA) (@PFault.get_err)) (And.intro (@PFault.get_a) (@PFault.get_b)))))))) := And.intro (And.intro (And.intro (And.intro (And.intro (And.intro (@PEq.len) (And.intro (@PEq.ones) (@PEq.pures))) (And.intro (@PEq.strip) (And.intro (@PEq.norefs) (@PEq.take)))) (And.intro (And.intro (@PEq.drop) (And.intro (@PEq.takeA) (@PEq.dropA))) (And.intro (And.intro (@PEq.get_names) (@PEq.sub_e)) (And.intro (@PWay.len) (@PWay.ones))))) (And.intro (And.intro (And.intro (@PWay.pures) (And.intro (@PWay.strip) (@PWay.norefs))) (And.intro (And.intro (@PWay.take) (@PWay.drop)) (And.intro (@PWay.takeA) (@PWay.dropA)))) (And.intro (And.intro (@PWay.sub_cond) (And.intro (@PWay.sub0_cond) (@PWay.get_to))) (And.intro (And.intro (@PState.len) (@PState.ones)) (And.intro (@PState.pures) (@PState.strip)))))) (And.intro (And.intro (And.intro (And.intro (@PState.norefs) (And.intro (@PState.take) (@PState.drop))) (And.intro (@PState.takeA) (And.intro (@PState.dropA) (@PState.get_name)))) (And.intro (And.intro (@PState.get_eqs) (And.intro (@PState.get_ways) (@PItem.len))) (And.intro (And.intro (@PItem.ones) (@PItem.pures)) (And.intro (@PItem.strip) (@PItem.norefs))))) (And.intro (And.intro (And.intro (@PItem.take) (And.intro (@PItem.drop) (@PItem.takeA))) (And.intro (And.intro (@PItem.dropA) (@PItem.sub_eq)) (And.intro (@PItem.sub0_eq) (@PItem.get_states)))) (And.intro (And.intro (@PEnum.len) (And.intro (@PEnum.ones) (@PEnum.pures))) (And.intro (And.intro (@PEnum.strip) (@PEnum.norefs)) (And.intro (@PEnum.take) (@PEnum.drop))))))) (And.intro (And.intro (And.intro (And.intro (And.intro (@PEnum.takeA) (And.intro (@PEnum.dropA) (@PEnum.get_name))) (And.intro (@PEnum.get_cons) (And.intro (@PNode.len) (@PNode.ones)))) (And.intro (And.intro (@PNode.pures) (And.intro (@PNode.strip) (@PNode.norefs))) (And.intro (And.intro (@PNode.take) (@PNode.drop)) (And.intro (@PNode.takeA) (@PNode.dropA))))) (And.intro (And.intro (And.intro (@PNode.get_name) (And.intro (@PNode.get_funs) (@PNode.get_ins))) (And.intro (And.intro (@PNode.get_outs) (@PNode.get_items)) (And.intro (@PProg.len) (@PProg.ones)))) (And.intro (And.intro (@PProg.pures) (And.intro (@PProg.strip) (@PProg.norefs))) (And.intro (And.intro (@PProg.take) (@PProg.drop)) (And.intro (@PProg.takeA) (@PProg.dropA)))))) (And.intro (And.intro (And.intro (And.intro (@PProg.get_enums) (And.intro (@PProg.get_nodes) (@PTok.len))) (And.intro (And.intro (@PTok.ones) (@PTok.pures)) (And.intro (@PTok.strip) (@PTok.norefs)))) (And.intro (And.intro (@PTok.take) (And.intro (@PTok.drop) (@PTok.takeA))) (And.intro (And.intro (@PTok.dropA) (@PTok.get_sort)) (And.intro (@PTok.get_text) (@PTok.get_n))))) (And.intro (And.intro (And.intro (@PTok.get_line) (And.intro (@PTok.get_col) (@PFault.len))) (And.intro (And.intro (@PFault.ones) (@PFault.pures)) (And.intro (@PFault.strip) (@PFault.norefs)))) (And.intro (And.intro (@PFault.take) (And.intro (@PFault.drop) (@PFault.takeA))) (And.intro (And.intro (@PFault.dropA) (@PFault.get_err)) (And.intro (@PFault.get_a) (@PFault.get_b)))))))
end Go.Ab
/- Names, constructors and words. -/
namespace Go.Ab
open Go Go.Ab.Tab
set_option maxRecDepth 100000
set_option maxHeartbeats 4000000
set_option linter.unusedSimpArgs false
def lowerB (z : Int) : Bool := decide (97 ≤ z) && decide (z ≤ 122)
def upperB (z : Int) : Bool := decide (65 ≤ z) && decide (z ≤ 90)
def digitB (z : Int) : Bool := decide (48 ≤ z) && decide (z ≤ 57)
def innerB (z : Int) : Bool := lowerB z || upperB z || digitB z || z == 95
theorem lower_c (z : Int) : Ret C 86 [.int .u8 z] (.bool (lowerB z)) := by
  refine Ret.mk rfl rfl ?_
  rw [C_fn rfl Go.Proofs.Tryz.func86 rfl (by kernel_rfl) (m := 8) rfl]; simp only [sims, core, pe, Nat.reduceAdd, Int.reduceBEq, Int.reduceBNe, Int.reduceLT, Int.reduceLE, Go.Proofs.Tryz.f86, fx_86, lowerB]
  cases h : decide (97 ≤ z) <;> simp only [sims, core, pe, Nat.reduceAdd, Int.reduceBEq, Int.reduceBNe, Int.reduceLT, Int.reduceLE, h]
theorem upper_c (z : Int) : Ret C 87 [.int .u8 z] (.bool (upperB z)) := by
  refine Ret.mk rfl rfl ?_
  rw [C_fn rfl Go.Proofs.Tryz.func87 rfl (by kernel_rfl) (m := 8) rfl]; simp only [sims, core, pe, Nat.reduceAdd, Int.reduceBEq, Int.reduceBNe, Int.reduceLT, Int.reduceLE, Go.Proofs.Tryz.f87, fx_87, upperB]
  cases h : decide (65 ≤ z) <;> simp only [sims, core, pe, Nat.reduceAdd, Int.reduceBEq, Int.reduceBNe, Int.reduceLT, Int.reduceLE, h]
theorem digit_c (z : Int) : Ret C 84 [.int .u8 z] (.bool (digitB z)) := by
  refine Ret.mk rfl rfl ?_
  rw [C_fn rfl Go.Proofs.Tryz.func84 rfl (by kernel_rfl) (m := 8) rfl]; simp only [sims, core, pe, Nat.reduceAdd, Int.reduceBEq, Int.reduceBNe, Int.reduceLT, Int.reduceLE, Go.Proofs.Tryz.f84, fx_84, digitB]
  cases h : decide (48 ≤ z) <;> simp only [sims, core, pe, Nat.reduceAdd, Int.reduceBEq, Int.reduceBNe, Int.reduceLT, Int.reduceLE, h]
theorem inner_c (z : Int) : Ret C 118 [.int .u8 z] (.bool (innerB z)) := by
  refine Ret.mk rfl rfl ?_
  have e1 := lower_c z
  have e2 := upper_c z
  have e3 := digit_c z
  rw [C_fn rfl Go.Proofs.Tryz.func118 rfl (by kernel_rfl) (m := 16) rfl]; simp only [sims, core, pe, Nat.reduceAdd, Int.reduceBEq, Int.reduceBNe, Int.reduceLT, Int.reduceLE, Go.Proofs.Tryz.f118, fx_118, e1 _, innerB]
  cases h : lowerB z
  · cases h2 : upperB z
    · cases h3 : digitB z <;> simp only [sims, core, pe, Nat.reduceAdd, Int.reduceBEq, Int.reduceBNe, Int.reduceLT, Int.reduceLE, h, h2, h3, e2 _, e3 _]
    · simp only [sims, core, pe, Nat.reduceAdd, Int.reduceBEq, Int.reduceBNe, Int.reduceLT, Int.reduceLE, h, h2, e2 _]
  · simp only [sims, core, pe, Nat.reduceAdd, Int.reduceBEq, Int.reduceBNe, Int.reduceLT, Int.reduceLE, h]
def spanN (p : Int → Bool) : Str → Nat
  | [] => 0
  | c :: r => if p c.toNat then spanN p r + 1 else 0
theorem spanN_le (p : Int → Bool) : ∀ s : Str, spanN p s ≤ s.length
  | [] => Nat.le_refl _
  | c :: r => by
    have := spanN_le p r
    simp only [spanN, List.length_cons]
    split <;> omega
theorem span_c (p : Int → Bool) (f : FuncId) (hp : ∀ z, Ret C f [.int .u8 z] (.bool (p z))) (s : Str) (hs : s.length ≤ lenTop) : Ret C 79 [.str s, .func f [] []] (.int .i64 (spanN p s)) := by
  refine Ret.mk rfl rfl ?_
  rw [C_fn rfl Go.Proofs.Tryz.func79 rfl (by kernel_rfl) (m := 19) rfl]; simp only [sims, core, pe, Nat.reduceAdd, Int.reduceBEq, Int.reduceBNe, Int.reduceLT, Int.reduceLE, Go.Proofs.Tryz.f79, fx_79, hs]
  generalize hb : codeB PP cmp0 C lpC _ = f; generalize hl : lpC f _ = r
  obtain ⟨ex, s', rfl, h2⟩ := lpC_at (α := Nat) hl [4, 5, 9, 10, 11, 12, 13, 14, 15, 16, 17, 18] (fun i => [(8, .int .i64 i)]) (fun i => i ≤ s.length) (fun i => s.length - i) (fun i => i + spanN p (s.drop i))
    (fun ts H r ex st => (ex = .exit 0 ∧ r = s.length ∧ At [4, 5, 8, 9, 10, 11, 12, 13, 14, 15, 16, 17, 18] ts H [] st) ∨ (ex = .ret ∧ At [5, 8, 9, 10, 11, 12, 13, 14, 15, 16, 17, 18] ts H [(4, .int .i64 r)] st)) 0 (Nat.zero_le _) (by simp only [At, ats, Int.natCast_zero]) (by
      intro i j H d hi
      clear hl; subst hb
      by_cases hlt : i < s.length
      · have e1 : ((i : Int) < (s.length : Int)) := by omega
        have e3 : s[i]? = some s[i] := by simp [hlt]
        have e5 := hp s[i].toNat
        simp only [sims, core, pe, Nat.reduceAdd, Int.reduceBEq, Int.reduceBNe, Int.reduceLT, Int.reduceLE, fx_79, e1, e3, e5 _]
        cases hc : p s[i].toNat
        · simp only [sims, core, pe, Nat.reduceAdd, Int.reduceBEq, Int.reduceBNe, Int.reduceLT, Int.reduceLE]
          exact .inr ⟨_, _, rfl, by simp, .inr ⟨rfl, by simp only [List.drop_eq_getElem_cons hlt, spanN, hc, At, ats]; rfl⟩⟩
        · simp only [sims, core, pe, Nat.reduceAdd, Int.reduceBEq, Int.reduceBNe, Int.reduceLT, Int.reduceLE, wrap_nat (show i ≤ lenTop by omega)]
          exact .inl ⟨i + 1, _, rfl, hlt, by simp only [At, ats, Int.natCast_zero], by simp only []; omega, by simp only [List.drop_eq_getElem_cons hlt, spanN, hc, if_true]; omega⟩
      · have e1 : ¬ ((i : Int) < (s.length : Int)) := by omega
        simp only [sims, core, pe, Nat.reduceAdd, Int.reduceBEq, Int.reduceBNe, Int.reduceLT, Int.reduceLE, fx_79, e1]
        exact .inr ⟨_, _, rfl, by simp, .inl ⟨rfl, by simp only []; rw [List.drop_eq_nil_of_le (by omega)]; simp only [spanN]; omega, by simp only [At, ats, Int.natCast_zero]⟩⟩)
  rw [List.drop_zero, Nat.zero_add] at h2
  rcases h2 with ⟨rfl, hr, h2⟩ | ⟨rfl, h2⟩
  · obtain ⟨j, H, d, rfl⟩ := h2.elim
    clear hl
    simp only [sims, core, pe, Nat.reduceAdd, Int.reduceBEq, Int.reduceBNe, Int.reduceLT, Int.reduceLE, fx_79, hr, hs]
  · obtain ⟨j, H, d, rfl⟩ := h2.elim
    clear hl
    simp only [sims, core, pe, Nat.reduceAdd, Int.reduceBEq, Int.reduceBNe, Int.reduceLT, Int.reduceLE]
def wordL : List Str := [[116, 121, 112, 101], [110, 111, 100, 101], [119, 104, 101, 114, 101], [101, 110, 100], [97, 117, 116, 111, 109, 97, 116, 111, 110], [115, 116, 97, 116, 101], [117, 110, 116, 105, 108], [116, 104, 101, 110], [105, 102], [101, 108, 115, 101], [102, 98, 121], [112, 114, 101], [110, 111, 116], [97, 110, 100], [111, 114], [119, 104, 101, 110], [109, 101, 114, 103, 101], [109, 97, 116, 99, 104], [101, 118, 101, 114, 121], [116, 114, 117, 101], [102, 97, 108, 115, 101]]
theorem words_c : Ret C 147 [] (encStrs wordL) := Ret.mk rfl rfl (C_of (n := 5) (by kernel_rfl))
theorem rwords_c : Ret C 133 [] (encStrs wordL) := Ret.mk rfl rfl (C_of (n := 5) (by kernel_rfl))
def idxN (s : Str) : List Str → Nat → Int
  | [], _ => -1
  | x :: r, i => if s == x then (i : Int) else idxN s r (i + 1)
theorem idxN_has (s : Str) : ∀ (l : List Str) (i : Nat), decide (0 ≤ idxN s l i) = l.any (s == ·)
  | [], i => by simp [idxN]
  | x :: r, i => by
    by_cases h : (s == x) = true
    · simp only [idxN, List.any_cons, h, if_true, Bool.true_or]
      exact decide_eq_true (Int.natCast_nonneg i)
    · have h' : (s == x) = false := by simpa using h
      simp only [idxN, List.any_cons, h', Bool.false_or]
      exact idxN_has s r (i + 1)
theorem index_c (l : List Str) (s : Str) (hl : l.length ≤ lenTop) : Ret C 162 [encStrs l, .str s] (.int .i64 (idxN s l 0)) := by
  refine Ret.mk rfl rfl ?_
  rw [C_fn rfl Go.Proofs.Tryz.func162 rfl (by kernel_rfl) (m := 17) rfl]; simp only [sims, core, pe, Nat.reduceAdd, Int.reduceBEq, Int.reduceBNe, Int.reduceLT, Int.reduceLE, Go.Proofs.Tryz.f162, fx_162, encStrs]
  generalize hb : codeB PP cmp0 C lpC _ = f; generalize hl0 : lpC f _ = r
  obtain ⟨ex, s', rfl, h2⟩ := lpC_at (α := Nat) hl0 [4, 5, 9, 10, 11, 12, 13, 14, 15, 16, 17, 18] (fun i => [(8, .int .i64 i)]) (fun i => i ≤ l.length) (fun i => l.length - i) (fun i => idxN s (l.drop i) i)
    (fun ts H r ex st => (ex = .exit 0 ∧ r = -1 ∧ At [4, 5, 8, 9, 10, 11, 12, 13, 14, 15, 16, 17, 18] ts H [] st) ∨ (ex = .ret ∧ At [5, 8, 9, 10, 11, 12, 13, 14, 15, 16, 17, 18] ts H [(4, .int .i64 r)] st)) 0 (Nat.zero_le _) (by simp only [At, ats, Int.natCast_zero]) (by
      intro i j H d hi
      clear hl0; subst hb
      by_cases hlt : i < l.length
      · have e1 : ((i : Int) < (l.length : Int)) := by omega
        have e3 := strs_get l i hlt
        simp only [sims, core, pe, Nat.reduceAdd, Int.reduceBEq, Int.reduceBNe, Int.reduceLT, Int.reduceLE, fx_162, e1, e3]
        cases hc : s == l[i]
        · simp only [sims, core, pe, Nat.reduceAdd, Int.reduceBEq, Int.reduceBNe, Int.reduceLT, Int.reduceLE, wrap_nat (show i ≤ lenTop by omega)]
          exact .inl ⟨i + 1, _, rfl, hlt, by simp only [At, ats, Int.natCast_zero], by simp only []; omega, by simp only [List.drop_eq_getElem_cons hlt, idxN, hc]; rfl⟩
        · simp only [sims, core, pe, Nat.reduceAdd, Int.reduceBEq, Int.reduceBNe, Int.reduceLT, Int.reduceLE]
          exact .inr ⟨_, _, rfl, by simp, .inr ⟨rfl, by simp only [List.drop_eq_getElem_cons hlt, idxN, hc, if_true, At, ats]⟩⟩
      · have e1 : ¬ ((i : Int) < (l.length : Int)) := by omega
        simp only [sims, core, pe, Nat.reduceAdd, Int.reduceBEq, Int.reduceBNe, Int.reduceLT, Int.reduceLE, fx_162, e1]
        exact .inr ⟨_, _, rfl, by simp, .inl ⟨rfl, by simp only []; rw [List.drop_eq_nil_of_le (by omega)]; rfl, by simp only [At, ats, Int.natCast_zero]⟩⟩)
  rw [List.drop_zero] at h2
  rcases h2 with ⟨rfl, hr, h2⟩ | ⟨rfl, h2⟩
  · obtain ⟨j, H, d, rfl⟩ := h2.elim
    clear hl0
    simp only [sims, core, pe, Nat.reduceAdd, Int.reduceBEq, Int.reduceBNe, Int.reduceLT, Int.reduceLE, hr]
  · obtain ⟨j, H, d, rfl⟩ := h2.elim
    clear hl0
    simp only [sims, core, pe, Nat.reduceAdd, Int.reduceBEq, Int.reduceBNe, Int.reduceLT, Int.reduceLE]
theorem contains_c (l : List Str) (s : Str) (hl : l.length ≤ lenTop) : Ret C 146 [encStrs l, .str s] (.bool (l.any (s == ·))) := by
  refine Ret.mk rfl rfl ?_
  have e1 := index_c l s hl
  rw [C_fn rfl Go.Proofs.Tryz.func146 rfl (by kernel_rfl) (m := 7) rfl]; simp only [sims, core, pe, Nat.reduceAdd, Int.reduceBEq, Int.reduceBNe, Int.reduceLT, Int.reduceLE, Go.Proofs.Tryz.f146, fx_146, e1 _, idxN_has]
theorem isWord_c (s : Str) : Ret C 119 [.str s] (.bool (wordL.any (s == ·))) := by
  refine Ret.mk rfl rfl ?_
  have e0 := words_c
  have e1 := contains_c wordL s (by decide)
  rw [C_fn rfl Go.Proofs.Tryz.func119 rfl (by kernel_rfl) (m := 5) rfl]; simp only [sims, core, pe, Nat.reduceAdd, Int.reduceBEq, Int.reduceBNe, Int.reduceLT, Int.reduceLE, Go.Proofs.Tryz.f119, fx_119, e0 _, e1 _]
def shapedB (p : Int → Bool) : Str → Bool
  | [] => false
  | c :: r => decide ((c :: r).length ≤ 24) && p c.toNat && (spanN innerB (c :: r) == (c :: r).length)
theorem int_dec (a b : Nat) : decide ((a : Int) ≤ (b : Int)) = decide (a ≤ b) := by
  by_cases h : a ≤ b
  · rw [decide_eq_true h, decide_eq_true (by omega)]
  · rw [decide_eq_false h, decide_eq_false (by omega)]
theorem int_beq (a b : Nat) : ((a : Int) == (b : Int)) = (a == b) := by
  by_cases h : a = b
  · subst h; simp
  · have h1 : ((a : Int) == (b : Int)) = false := by simp; omega
    have h2 : (a == b) = false := by simpa using h
    rw [h1, h2]
theorem shaped_c (p : Int → Bool) (f : FuncId) (hp : ∀ z, Ret C f [.int .u8 z] (.bool (p z))) (s : Str) (hs : s.length ≤ lenTop) : Ret C 122 [.str s, .func f [] []] (.bool (shapedB p s)) := by
  refine Ret.mk rfl rfl ?_
  have e1 := span_c innerB 118 inner_c s hs
  cases s with
  | nil => rw [C_fn rfl Go.Proofs.Tryz.func122 rfl (by kernel_rfl) (m := 23) rfl]; simp only [sims, core, pe, Nat.reduceAdd, Int.reduceBEq, Int.reduceBNe, Int.reduceLT, Int.reduceLE, Go.Proofs.Tryz.f122, fx_122, shapedB]
  | cons c r =>
    have e2 := hp c.toNat
    have e3 : ((c :: r) == ([] : Str)) = false := rfl
    have e4 : decide (((r.length + 1 : Nat) : Int) ≤ 24) = decide (r.length + 1 ≤ 24) := int_dec (r.length + 1) 24
    have e5 := int_beq (spanN innerB (c :: r)) (c :: r).length
    have hs' := hs
    simp only [List.length_cons] at e5 hs'
    rw [C_fn rfl Go.Proofs.Tryz.func122 rfl (by kernel_rfl) (m := 23) rfl]; simp only [sims, core, pe, Nat.reduceAdd, Int.reduceBEq, Int.reduceBNe, Int.reduceLT, Int.reduceLE, Go.Proofs.Tryz.f122, fx_122, e3, e4, shapedB, hs', hs]
    cases h1 : decide (r.length ≤ 23)
    · simp only [sims, core, pe, Nat.reduceAdd, Int.reduceBEq, Int.reduceBNe, Int.reduceLT, Int.reduceLE, fx_122, h1]
    cases h2 : p c.toNat
    · simp only [sims, core, pe, Nat.reduceAdd, Int.reduceBEq, Int.reduceBNe, Int.reduceLT, Int.reduceLE, fx_122, h1, h2, e2 _]
    · simp only [sims, core, pe, Nat.reduceAdd, Int.reduceBEq, Int.reduceBNe, Int.reduceLT, Int.reduceLE, fx_122, h1, h2, e2 _, e1 _, hs', e5]
def isNameB (s : Str) : Bool := shapedB lowerB s && !(wordL.any (s == ·))
def isConB (s : Str) : Bool := shapedB upperB s
theorem isName_c (s : Str) (hs : s.length ≤ lenTop) : Ret C 92 [.str s] (.bool (isNameB s)) := by
  refine Ret.mk rfl rfl ?_
  have e1 := shaped_c lowerB 86 lower_c s hs
  have e2 := isWord_c s
  rw [C_fn rfl Go.Proofs.Tryz.func92 rfl (by kernel_rfl) (m := 9) rfl]; simp only [sims, core, pe, Nat.reduceAdd, Int.reduceBEq, Int.reduceBNe, Int.reduceLT, Int.reduceLE, Go.Proofs.Tryz.f92, fx_92, e1 _, isNameB]
  cases h1 : shapedB lowerB s
  · simp only [sims, core, pe, Nat.reduceAdd, Int.reduceBEq, Int.reduceBNe, Int.reduceLT, Int.reduceLE, fx_92, h1]
  · simp only [sims, core, pe, Nat.reduceAdd, Int.reduceBEq, Int.reduceBNe, Int.reduceLT, Int.reduceLE, fx_92, h1, e2 _]
theorem isCon_c (s : Str) (hs : s.length ≤ lenTop) : Ret C 96 [.str s] (.bool (isConB s)) := by
  refine Ret.mk rfl rfl ?_
  have e1 := shaped_c upperB 87 upper_c s hs
  rw [C_fn rfl Go.Proofs.Tryz.func96 rfl (by kernel_rfl) (m := 4) rfl]; simp only [sims, core, pe, Nat.reduceAdd, Int.reduceBEq, Int.reduceBNe, Int.reduceLT, Int.reduceLE, Go.Proofs.Tryz.f96, fx_96, e1 _, isConB]
end Go.Ab
/- The scanner: going on in a text. -/
namespace Go.Ab
open Go Go.Ab.Tab
set_option maxRecDepth 100000
set_option maxHeartbeats 4000000
set_option linter.unusedSimpArgs false
def adv (p : Nat × Nat) (c : UInt8) : Nat × Nat := if c = 10 then (p.1 + 1, 1) else (p.1, p.2 + 1)
/-- The line and the column behind a text. -/
def plc (s : Str) : Nat × Nat := s.foldl adv (1, 1)
theorem plc_snoc (s : Str) (c : UInt8) : plc (s ++ [c]) = adv (plc s) c := by simp [plc]
theorem plc_le (s : Str) : (plc s).1 ≤ s.length + 1 ∧ (plc s).2 ≤ s.length + 1 := by
  have key : ∀ (s : Str) (p : Nat × Nat), (s.foldl adv p).1 ≤ p.1 + s.length ∧ (s.foldl adv p).2 ≤ max p.2 1 + s.length := by
    intro s
    induction s with
    | nil => intro p; simp; omega
    | cons c r ih =>
      intro p
      have h := ih (adv p c)
      simp only [List.foldl_cons, List.length_cons]
      unfold adv at h ⊢
      by_cases hc : c = 10
      · rw [if_pos hc] at h ⊢; simp only at h ⊢; omega
      · rw [if_neg hc] at h ⊢; simp only at h ⊢; omega
  have := key s (1, 1)
  simp only at this
  unfold plc; omega
def scell (text : Str) (k : Nat) : List AVal := [.str text, .int .i64 k, .int .i64 (plc (text.take k)).1, .int .i64 (plc (text.take k)).2]
theorem scell_refs (text : Str) (k : Nat) : refsL (scell text k) = [] := rfl
theorem stay_scell (n : Nat) (text : Str) (k : Nat) (h : AHeap) (b : Nat) (hb : h[b]? = some (.box (scell text k))) : Stays n h b :=
  stay_pure n h b _ hb (fun v hv => by
    simp only [scell, List.mem_cons, List.not_mem_nil, or_false] at hv
    rcases hv with rfl | rfl | rfl | rfl
    · exact .inr (.inl ⟨_, rfl⟩)
    · exact .inl ⟨_, _, rfl⟩
    · exact .inl ⟨_, _, rfl⟩
    · exact .inl ⟨_, _, rfl⟩)
theorem byte10 (c : UInt8) : ((c.toNat : Int) == 10) = decide (c = 10) := by
  by_cases h : c = 10
  · subst h; rfl
  · have : c.toNat ≠ 10 := fun e => h (UInt8.toNat_inj.1 (by rw [e]; rfl))
    simp only [h, decide_false, beq_eq_false_iff_ne, ne_eq]; omega
theorem skip_c (text : Str) (hT : text.length ≤ 65536) (k n : Nat) (hn : k + n ≤ text.length) : Gives C 53 [.ptr 0 0, .int .i64 n] [.box (scell text k)] (.tuple []) [.box (scell text (k + n))] := by
  refine C_gives rfl Go.Proofs.Tryz.func53 rfl (by kernel_rfl) (m := 41) rfl ?_; simp only [sims, core, pe, Nat.reduceAdd, Int.reduceBEq, Int.reduceBNe, Int.reduceLT, Int.reduceLE, Go.Proofs.Tryz.f53, fx_53]
  generalize hb : codeB PP cmp0 C lpC _ = f; generalize hl : lpC f _ = r
  obtain ⟨ex, s', rfl, rfl, h2⟩ := lpC_atH (α := Nat) hl [6, 7, 8, 9, 10, 11, 12, 13, 14, 15, 16, 17, 18, 19, 20, 21, 22, 23, 24, 25, 26, 27, 28, 29, 30, 31, 32, 33, 34, 35, 36, 37, 38, 39, 40, 41, 42] (fun i => [(5, .int .i64 i)]) (fun i => [.box (scell text (k + i))]) (fun i => i ≤ n) (fun i => n - i) (fun _ => ())
    (fun ts _ ex s => ex = .exit 0 ∧ At [6, 7, 8, 9, 10, 11, 12, 13, 14, 15, 16, 17, 18, 19, 20, 21, 22, 23, 24, 25, 26, 27, 28, 29, 30, 31, 32, 33, 34, 35, 36, 37, 38, 39, 40, 41, 42] ts [.box (scell text (k + n))] [(5, .int .i64 n)] s) 0 (Nat.zero_le _) (At.of [] (by simp only [ats, Int.natCast_zero]) (by simp only [List.append_nil, Nat.add_zero])) (by
      intro i j H d hi
      clear hl; subst hb
      by_cases hlt : i < n
      · have e1 : ((i : Int) < (n : Int)) := by omega
        have hk : k + i < text.length := by omega
        have e2 : text[k + i]? = some text[k + i] := List.getElem?_eq_getElem hk
        have hpl := plc_le (text.take (k + i))
        have hln : (text.take (k + i)).length ≤ 65536 := by rw [List.length_take]; omega
        have w1 := wrap_nat (show (plc (text.take (k + i))).2 ≤ lenTop by unfold lenTop; omega)
        have w2 := wrap_nat (show (plc (text.take (k + i))).1 ≤ lenTop by unfold lenTop; omega)
        have w3 := wrap_nat (show k + i ≤ lenTop by unfold lenTop; omega)
        have w4 := wrap_nat (show i ≤ lenTop by unfold lenTop; omega)
        have hst : plc (text.take (k + i + 1)) = adv (plc (text.take (k + i))) text[k + i] := by
          rw [List.take_succ_eq_append_getElem hk, plc_snoc]
        have hcell : scell text (k + (i + 1)) = [.str text, .int .i64 ((k + i + 1 : Nat) : Int), .int .i64 ((adv (plc (text.take (k + i))) text[k + i]).1 : Nat), .int .i64 ((adv (plc (text.take (k + i))) text[k + i]).2 : Nat)] := by
          rw [← Nat.add_assoc]; unfold scell; rw [hst]
        cases hc : decide (text[k + i] = 10)
        · simp only [sims, core, pe, Nat.reduceAdd, Int.reduceBEq, Int.reduceBNe, Int.reduceLT, Int.reduceLE, effs, fx_53, scell, e1, e2, w1, w2, w3, w4, byte10, hc]
          refine .inl ⟨i + 1, _, rfl, hlt, ?_, Nat.sub_lt_sub_left hlt (Nat.lt_succ_self i), trivial⟩
          have hc' : ¬ text[k + i] = 10 := by simpa using hc
          unfold adv scell at hcell
          rw [if_neg hc'] at hcell
          rw [hcell]
          exact At.of _ (by simp only [ats, Int.natCast_zero]) (by simp only [List.cons_append, List.append_assoc, List.nil_append]; rfl)
        · simp only [sims, core, pe, Nat.reduceAdd, Int.reduceBEq, Int.reduceBNe, Int.reduceLT, Int.reduceLE, effs, fx_53, scell, e1, e2, w1, w2, w3, w4, byte10, hc]
          refine .inl ⟨i + 1, _, rfl, hlt, ?_, Nat.sub_lt_sub_left hlt (Nat.lt_succ_self i), trivial⟩
          have hc' : text[k + i] = 10 := by simpa using hc
          unfold adv scell at hcell
          rw [if_pos hc'] at hcell
          rw [hcell]
          exact At.of _ (by simp only [ats, Int.natCast_zero]) (by simp only [List.cons_append, List.append_assoc, List.nil_append]; rfl)
      · have e1 : ¬ ((i : Int) < (n : Int)) := by omega
        have hin : i = n := by omega
        subst hin
        simp only [sims, core, pe, Nat.reduceAdd, Int.reduceBEq, Int.reduceBNe, Int.reduceLT, Int.reduceLE, fx_53, e1]
        exact .inr ⟨_, _, rfl, by simp, rfl, At.of _ (by simp only [ats, Int.natCast_zero]) (by simp only [List.cons_append, List.append_assoc, List.nil_append]; rfl)⟩)
  obtain ⟨j, H, d, rfl⟩ := h2.elim
  clear hl
  exact fin_stays (.inr rfl) rfl rfl rfl (fun b hb => by
    obtain rfl : b = 0 := Nat.lt_one_iff.1 hb
    exact stay_scell _ text (k + n) _ _ rfl) rfl
end Go.Ab
