/- The project's structs, how they lie in the evaluator, and what simp knows of them. -/
import Derived.Test.YtnmejllfnndcbaaGreatDoorAbSim
set_option linter.unusedSimpArgs false
set_option linter.unusedVariables false
namespace Go.Ab
structure PEq where
  names : List Str
  e : PExpr
def PEq.cells (x : PEq) : List AVal := [encStrs x.names] ++ (x.e.cells)
def PEq.Small (x : PEq) : Prop := StrsSmall x.names ∧ x.e.Small
theorem PEq.ok (x : PEq) : CellsOk 6 x.cells := CellsOk.append ((show CellsOk 1 [encStrs x.names] from ⟨rfl, rfl, rfl, rfl, rfl⟩)) (x.e.ok)
theorem PEq.len (x : PEq) : x.cells.length = 6 := x.ok.len
theorem PEq.ones (x : PEq) : x.cells.all oneA = true := x.ok.one
theorem PEq.pures (x : PEq) : x.cells.all pureA = true := x.ok.pure
theorem PEq.strip (x : PEq) : x.cells.map strip0 = x.cells := x.ok.strip
theorem PEq.norefs (x : PEq) : refsL x.cells = [] := x.ok.refs
theorem PEq.take (x : PEq) : List.take 6 x.cells = x.cells := by rw [List.take_of_length_le]; rw [x.len]; exact Nat.le_refl _
theorem PEq.drop (x : PEq) : List.drop 6 x.cells = [] := by rw [← x.len, List.drop_length]
theorem PEq.takeA (x : PEq) (r : List AVal) : List.take 6 (x.cells ++ r) = x.cells := by rw [← x.len, List.take_left]
theorem PEq.dropA (x : PEq) (r : List AVal) : List.drop 6 (x.cells ++ r) = r := by rw [← x.len, List.drop_left]
theorem PEq.get_names (x : PEq) : x.cells[0]? = some (encStrs x.names) := by
  unfold PEq.cells
  rfl
theorem PEq.sub_e (x : PEq) : List.take 5 (List.drop 1 x.cells) = x.e.cells := by
  unfold PEq.cells
  exact x.e.take
structure PWay where
  cond : PExpr
  to : Str
def PWay.cells (x : PWay) : List AVal := x.cond.cells ++ ([.str x.to])
def PWay.Small (x : PWay) : Prop := x.cond.Small ∧ x.to.length ≤ lenTop
theorem PWay.ok (x : PWay) : CellsOk 6 x.cells := CellsOk.append (x.cond.ok) ((⟨rfl, rfl, rfl, rfl, rfl⟩ : CellsOk 1 [.str x.to]))
theorem PWay.len (x : PWay) : x.cells.length = 6 := x.ok.len
theorem PWay.ones (x : PWay) : x.cells.all oneA = true := x.ok.one
theorem PWay.pures (x : PWay) : x.cells.all pureA = true := x.ok.pure
theorem PWay.strip (x : PWay) : x.cells.map strip0 = x.cells := x.ok.strip
theorem PWay.norefs (x : PWay) : refsL x.cells = [] := x.ok.refs
theorem PWay.take (x : PWay) : List.take 6 x.cells = x.cells := by rw [List.take_of_length_le]; rw [x.len]; exact Nat.le_refl _
theorem PWay.drop (x : PWay) : List.drop 6 x.cells = [] := by rw [← x.len, List.drop_length]
theorem PWay.takeA (x : PWay) (r : List AVal) : List.take 6 (x.cells ++ r) = x.cells := by rw [← x.len, List.take_left]
theorem PWay.dropA (x : PWay) (r : List AVal) : List.drop 6 (x.cells ++ r) = r := by rw [← x.len, List.drop_left]
theorem PWay.sub_cond (x : PWay) : List.take 5 (List.drop 0 x.cells) = x.cond.cells := by
  unfold PWay.cells
  rw [List.drop_zero]; exact x.cond.takeA _
theorem PWay.sub0_cond (x : PWay) : List.take 5 x.cells = x.cond.cells := by
  unfold PWay.cells
  exact x.cond.takeA _
theorem PWay.get_to (x : PWay) : x.cells[5]? = some (.str x.to) := by
  unfold PWay.cells
  simp [List.getElem?_append, x.cond.len]
structure PState where
  name : Str
  eqs : List PEq
  ways : List PWay
def PState.cells (x : PState) : List AVal := [.str x.name] ++ ([.slice (x.eqs.map PEq.cells) .free] ++ ([.slice (x.ways.map PWay.cells) .free]))
def PState.Small (x : PState) : Prop := x.name.length ≤ lenTop ∧ x.eqs.length ≤ lenTop ∧ (∀ y ∈ x.eqs, PEq.Small y) ∧ x.ways.length ≤ lenTop ∧ (∀ y ∈ x.ways, PWay.Small y)
theorem PState.ok (x : PState) : CellsOk 3 x.cells := CellsOk.append ((show CellsOk 1 [.str x.name] from ⟨rfl, rfl, rfl, rfl, rfl⟩)) (CellsOk.append ((show CellsOk 1 [.slice (x.eqs.map PEq.cells) .free] from ⟨rfl, rfl, rfl, rfl, rfl⟩)) ((⟨rfl, rfl, rfl, rfl, rfl⟩ : CellsOk 1 [.slice (x.ways.map PWay.cells) .free])))
theorem PState.len (x : PState) : x.cells.length = 3 := x.ok.len
theorem PState.ones (x : PState) : x.cells.all oneA = true := x.ok.one
theorem PState.pures (x : PState) : x.cells.all pureA = true := x.ok.pure
theorem PState.strip (x : PState) : x.cells.map strip0 = x.cells := x.ok.strip
theorem PState.norefs (x : PState) : refsL x.cells = [] := x.ok.refs
theorem PState.take (x : PState) : List.take 3 x.cells = x.cells := by rw [List.take_of_length_le]; rw [x.len]; exact Nat.le_refl _
theorem PState.drop (x : PState) : List.drop 3 x.cells = [] := by rw [← x.len, List.drop_length]
theorem PState.takeA (x : PState) (r : List AVal) : List.take 3 (x.cells ++ r) = x.cells := by rw [← x.len, List.take_left]
theorem PState.dropA (x : PState) (r : List AVal) : List.drop 3 (x.cells ++ r) = r := by rw [← x.len, List.drop_left]
theorem PState.get_name (x : PState) : x.cells[0]? = some (.str x.name) := by
  unfold PState.cells
  rfl
theorem PState.get_eqs (x : PState) : x.cells[1]? = some (.slice (x.eqs.map PEq.cells) .free) := by
  unfold PState.cells
  rfl
theorem PState.get_ways (x : PState) : x.cells[2]? = some (.slice (x.ways.map PWay.cells) .free) := by
  unfold PState.cells
  rfl
structure PItem where
  eq : PEq
  states : List PState
def PItem.cells (x : PItem) : List AVal := x.eq.cells ++ ([.slice (x.states.map PState.cells) .free])
def PItem.Small (x : PItem) : Prop := x.eq.Small ∧ x.states.length ≤ lenTop ∧ (∀ y ∈ x.states, PState.Small y)
theorem PItem.ok (x : PItem) : CellsOk 7 x.cells := CellsOk.append (x.eq.ok) ((⟨rfl, rfl, rfl, rfl, rfl⟩ : CellsOk 1 [.slice (x.states.map PState.cells) .free]))
theorem PItem.len (x : PItem) : x.cells.length = 7 := x.ok.len
theorem PItem.ones (x : PItem) : x.cells.all oneA = true := x.ok.one
theorem PItem.pures (x : PItem) : x.cells.all pureA = true := x.ok.pure
theorem PItem.strip (x : PItem) : x.cells.map strip0 = x.cells := x.ok.strip
theorem PItem.norefs (x : PItem) : refsL x.cells = [] := x.ok.refs
theorem PItem.take (x : PItem) : List.take 7 x.cells = x.cells := by rw [List.take_of_length_le]; rw [x.len]; exact Nat.le_refl _
theorem PItem.drop (x : PItem) : List.drop 7 x.cells = [] := by rw [← x.len, List.drop_length]
theorem PItem.takeA (x : PItem) (r : List AVal) : List.take 7 (x.cells ++ r) = x.cells := by rw [← x.len, List.take_left]
theorem PItem.dropA (x : PItem) (r : List AVal) : List.drop 7 (x.cells ++ r) = r := by rw [← x.len, List.drop_left]
theorem PItem.sub_eq (x : PItem) : List.take 6 (List.drop 0 x.cells) = x.eq.cells := by
  unfold PItem.cells
  rw [List.drop_zero]; exact x.eq.takeA _
theorem PItem.sub0_eq (x : PItem) : List.take 6 x.cells = x.eq.cells := by
  unfold PItem.cells
  exact x.eq.takeA _
theorem PItem.get_states (x : PItem) : x.cells[6]? = some (.slice (x.states.map PState.cells) .free) := by
  unfold PItem.cells
  simp [List.getElem?_append, x.eq.len]
structure PEnum where
  name : Str
  cons : List Str
def PEnum.cells (x : PEnum) : List AVal := [.str x.name] ++ ([encStrs x.cons])
def PEnum.Small (x : PEnum) : Prop := x.name.length ≤ lenTop ∧ StrsSmall x.cons
theorem PEnum.ok (x : PEnum) : CellsOk 2 x.cells := CellsOk.append ((show CellsOk 1 [.str x.name] from ⟨rfl, rfl, rfl, rfl, rfl⟩)) ((⟨rfl, rfl, rfl, rfl, rfl⟩ : CellsOk 1 [encStrs x.cons]))
theorem PEnum.len (x : PEnum) : x.cells.length = 2 := x.ok.len
theorem PEnum.ones (x : PEnum) : x.cells.all oneA = true := x.ok.one
theorem PEnum.pures (x : PEnum) : x.cells.all pureA = true := x.ok.pure
theorem PEnum.strip (x : PEnum) : x.cells.map strip0 = x.cells := x.ok.strip
theorem PEnum.norefs (x : PEnum) : refsL x.cells = [] := x.ok.refs
theorem PEnum.take (x : PEnum) : List.take 2 x.cells = x.cells := by rw [List.take_of_length_le]; rw [x.len]; exact Nat.le_refl _
theorem PEnum.drop (x : PEnum) : List.drop 2 x.cells = [] := by rw [← x.len, List.drop_length]
theorem PEnum.takeA (x : PEnum) (r : List AVal) : List.take 2 (x.cells ++ r) = x.cells := by rw [← x.len, List.take_left]
theorem PEnum.dropA (x : PEnum) (r : List AVal) : List.drop 2 (x.cells ++ r) = r := by rw [← x.len, List.drop_left]
theorem PEnum.get_name (x : PEnum) : x.cells[0]? = some (.str x.name) := by
  unfold PEnum.cells
  rfl
theorem PEnum.get_cons (x : PEnum) : x.cells[1]? = some (encStrs x.cons) := by
  unfold PEnum.cells
  rfl
structure PNode where
  name : Str
  funs : List Str
  ins : List Str
  outs : List Str
  items : List PItem
def PNode.cells (x : PNode) : List AVal := [.str x.name] ++ ([encStrs x.funs] ++ ([encStrs x.ins] ++ ([encStrs x.outs] ++ ([.slice (x.items.map PItem.cells) .free]))))
def PNode.Small (x : PNode) : Prop := x.name.length ≤ lenTop ∧ StrsSmall x.funs ∧ StrsSmall x.ins ∧ StrsSmall x.outs ∧ x.items.length ≤ lenTop ∧ (∀ y ∈ x.items, PItem.Small y)
theorem PNode.ok (x : PNode) : CellsOk 5 x.cells := CellsOk.append ((show CellsOk 1 [.str x.name] from ⟨rfl, rfl, rfl, rfl, rfl⟩)) (CellsOk.append ((show CellsOk 1 [encStrs x.funs] from ⟨rfl, rfl, rfl, rfl, rfl⟩)) (CellsOk.append ((show CellsOk 1 [encStrs x.ins] from ⟨rfl, rfl, rfl, rfl, rfl⟩)) (CellsOk.append ((show CellsOk 1 [encStrs x.outs] from ⟨rfl, rfl, rfl, rfl, rfl⟩)) ((⟨rfl, rfl, rfl, rfl, rfl⟩ : CellsOk 1 [.slice (x.items.map PItem.cells) .free])))))
theorem PNode.len (x : PNode) : x.cells.length = 5 := x.ok.len
theorem PNode.ones (x : PNode) : x.cells.all oneA = true := x.ok.one
theorem PNode.pures (x : PNode) : x.cells.all pureA = true := x.ok.pure
theorem PNode.strip (x : PNode) : x.cells.map strip0 = x.cells := x.ok.strip
theorem PNode.norefs (x : PNode) : refsL x.cells = [] := x.ok.refs
theorem PNode.take (x : PNode) : List.take 5 x.cells = x.cells := by rw [List.take_of_length_le]; rw [x.len]; exact Nat.le_refl _
theorem PNode.drop (x : PNode) : List.drop 5 x.cells = [] := by rw [← x.len, List.drop_length]
theorem PNode.takeA (x : PNode) (r : List AVal) : List.take 5 (x.cells ++ r) = x.cells := by rw [← x.len, List.take_left]
theorem PNode.dropA (x : PNode) (r : List AVal) : List.drop 5 (x.cells ++ r) = r := by rw [← x.len, List.drop_left]
theorem PNode.get_name (x : PNode) : x.cells[0]? = some (.str x.name) := by
  unfold PNode.cells
  rfl
theorem PNode.get_funs (x : PNode) : x.cells[1]? = some (encStrs x.funs) := by
  unfold PNode.cells
  rfl
theorem PNode.get_ins (x : PNode) : x.cells[2]? = some (encStrs x.ins) := by
  unfold PNode.cells
  rfl
theorem PNode.get_outs (x : PNode) : x.cells[3]? = some (encStrs x.outs) := by
  unfold PNode.cells
  rfl
theorem PNode.get_items (x : PNode) : x.cells[4]? = some (.slice (x.items.map PItem.cells) .free) := by
  unfold PNode.cells
  rfl
structure PProg where
  enums : List PEnum
  nodes : List PNode
def PProg.cells (x : PProg) : List AVal := [.slice (x.enums.map PEnum.cells) .free] ++ ([.slice (x.nodes.map PNode.cells) .free])
def PProg.Small (x : PProg) : Prop := x.enums.length ≤ lenTop ∧ (∀ y ∈ x.enums, PEnum.Small y) ∧ x.nodes.length ≤ lenTop ∧ (∀ y ∈ x.nodes, PNode.Small y)
theorem PProg.ok (x : PProg) : CellsOk 2 x.cells := CellsOk.append ((show CellsOk 1 [.slice (x.enums.map PEnum.cells) .free] from ⟨rfl, rfl, rfl, rfl, rfl⟩)) ((⟨rfl, rfl, rfl, rfl, rfl⟩ : CellsOk 1 [.slice (x.nodes.map PNode.cells) .free]))
theorem PProg.len (x : PProg) : x.cells.length = 2 := x.ok.len
theorem PProg.ones (x : PProg) : x.cells.all oneA = true := x.ok.one
theorem PProg.pures (x : PProg) : x.cells.all pureA = true := x.ok.pure
theorem PProg.strip (x : PProg) : x.cells.map strip0 = x.cells := x.ok.strip
theorem PProg.norefs (x : PProg) : refsL x.cells = [] := x.ok.refs
theorem PProg.take (x : PProg) : List.take 2 x.cells = x.cells := by rw [List.take_of_length_le]; rw [x.len]; exact Nat.le_refl _
theorem PProg.drop (x : PProg) : List.drop 2 x.cells = [] := by rw [← x.len, List.drop_length]
theorem PProg.takeA (x : PProg) (r : List AVal) : List.take 2 (x.cells ++ r) = x.cells := by rw [← x.len, List.take_left]
theorem PProg.dropA (x : PProg) (r : List AVal) : List.drop 2 (x.cells ++ r) = r := by rw [← x.len, List.drop_left]
theorem PProg.get_enums (x : PProg) : x.cells[0]? = some (.slice (x.enums.map PEnum.cells) .free) := by
  unfold PProg.cells
  rfl
theorem PProg.get_nodes (x : PProg) : x.cells[1]? = some (.slice (x.nodes.map PNode.cells) .free) := by
  unfold PProg.cells
  rfl
structure PTok where
  sort : Int
  text : Str
  n : Int
  line : Int
  col : Int
def PTok.cells (x : PTok) : List AVal := [.int .i64 x.sort] ++ ([.str x.text] ++ ([.int .i64 x.n] ++ ([.int .i64 x.line] ++ ([.int .i64 x.col]))))
def PTok.Small (x : PTok) : Prop := x.text.length ≤ lenTop
theorem PTok.ok (x : PTok) : CellsOk 5 x.cells := CellsOk.append ((show CellsOk 1 [.int .i64 x.sort] from ⟨rfl, rfl, rfl, rfl, rfl⟩)) (CellsOk.append ((show CellsOk 1 [.str x.text] from ⟨rfl, rfl, rfl, rfl, rfl⟩)) (CellsOk.append ((show CellsOk 1 [.int .i64 x.n] from ⟨rfl, rfl, rfl, rfl, rfl⟩)) (CellsOk.append ((show CellsOk 1 [.int .i64 x.line] from ⟨rfl, rfl, rfl, rfl, rfl⟩)) ((⟨rfl, rfl, rfl, rfl, rfl⟩ : CellsOk 1 [.int .i64 x.col])))))
theorem PTok.len (x : PTok) : x.cells.length = 5 := x.ok.len
theorem PTok.ones (x : PTok) : x.cells.all oneA = true := x.ok.one
theorem PTok.pures (x : PTok) : x.cells.all pureA = true := x.ok.pure
theorem PTok.strip (x : PTok) : x.cells.map strip0 = x.cells := x.ok.strip
theorem PTok.norefs (x : PTok) : refsL x.cells = [] := x.ok.refs
theorem PTok.take (x : PTok) : List.take 5 x.cells = x.cells := by rw [List.take_of_length_le]; rw [x.len]; exact Nat.le_refl _
theorem PTok.drop (x : PTok) : List.drop 5 x.cells = [] := by rw [← x.len, List.drop_length]
theorem PTok.takeA (x : PTok) (r : List AVal) : List.take 5 (x.cells ++ r) = x.cells := by rw [← x.len, List.take_left]
theorem PTok.dropA (x : PTok) (r : List AVal) : List.drop 5 (x.cells ++ r) = r := by rw [← x.len, List.drop_left]
theorem PTok.get_sort (x : PTok) : x.cells[0]? = some (.int .i64 x.sort) := by
  unfold PTok.cells
  rfl
theorem PTok.get_text (x : PTok) : x.cells[1]? = some (.str x.text) := by
  unfold PTok.cells
  rfl
theorem PTok.get_n (x : PTok) : x.cells[2]? = some (.int .i64 x.n) := by
  unfold PTok.cells
  rfl
theorem PTok.get_line (x : PTok) : x.cells[3]? = some (.int .i64 x.line) := by
  unfold PTok.cells
  rfl
theorem PTok.get_col (x : PTok) : x.cells[4]? = some (.int .i64 x.col) := by
  unfold PTok.cells
  rfl
structure PFault where
  err : Int
  a : Int
  b : Int
def PFault.cells (x : PFault) : List AVal := [.int .i64 x.err] ++ ([.int .i64 x.a] ++ ([.int .i64 x.b]))
def PFault.Small (x : PFault) : Prop := x = x
theorem PFault.ok (x : PFault) : CellsOk 3 x.cells := CellsOk.append ((show CellsOk 1 [.int .i64 x.err] from ⟨rfl, rfl, rfl, rfl, rfl⟩)) (CellsOk.append ((show CellsOk 1 [.int .i64 x.a] from ⟨rfl, rfl, rfl, rfl, rfl⟩)) ((⟨rfl, rfl, rfl, rfl, rfl⟩ : CellsOk 1 [.int .i64 x.b])))
theorem PFault.len (x : PFault) : x.cells.length = 3 := x.ok.len
theorem PFault.ones (x : PFault) : x.cells.all oneA = true := x.ok.one
theorem PFault.pures (x : PFault) : x.cells.all pureA = true := x.ok.pure
theorem PFault.strip (x : PFault) : x.cells.map strip0 = x.cells := x.ok.strip
theorem PFault.norefs (x : PFault) : refsL x.cells = [] := x.ok.refs
theorem PFault.take (x : PFault) : List.take 3 x.cells = x.cells := by rw [List.take_of_length_le]; rw [x.len]; exact Nat.le_refl _
theorem PFault.drop (x : PFault) : List.drop 3 x.cells = [] := by rw [← x.len, List.drop_length]
theorem PFault.takeA (x : PFault) (r : List AVal) : List.take 3 (x.cells ++ r) = x.cells := by rw [← x.len, List.take_left]
theorem PFault.dropA (x : PFault) (r : List AVal) : List.drop 3 (x.cells ++ r) = r := by rw [← x.len, List.drop_left]
theorem PFault.get_err (x : PFault) : x.cells[0]? = some (.int .i64 x.err) := by
  unfold PFault.cells
  rfl
theorem PFault.get_a (x : PFault) : x.cells[1]? = some (.int .i64 x.a) := by
  unfold PFault.cells
  rfl
theorem PFault.get_b (x : PFault) : x.cells[2]? = some (.int .i64 x.b) := by
  unfold PFault.cells
  rfl
theorem ty : type_of% (And.intro (And.intro (And.intro (And.intro (And.intro (And.intro (@PEq.len) (And.intro (@PEq.ones) (@PEq.pures))) (And.intro (@PEq.strip) (And.intro (@PEq.norefs) (@PEq.take)))) (And.intro (And.intro (@PEq.drop) (And.intro (@PEq.takeA) (@PEq.dropA))) (And.intro (And.intro (@PEq.get_names) (@PEq.sub_e)) (And.intro (@PWay.len) (@PWay.ones))))) (And.intro (And.intro (And.intro (@PWay.pures) (And.intro (@PWay.strip) (@PWay.norefs))) (And.intro (And.intro (@PWay.take) (@PWay.drop)) (And.intro (@PWay.takeA) (@PWay.dropA)))) (And.intro (And.intro (@PWay.sub_cond) (And.intro (@PWay.sub0_cond) (@PWay.get_to))) (And.intro (And.intro (@PState.len) (@PState.ones)) (And.intro (@PState.pures) (@PState.strip)))))) (And.intro (And.intro (And.intro (And.intro (@PState.norefs) (And.intro (@PState.take) (@PState.drop))) (And.intro (@PState.takeA) (And.intro (@PState.dropA) (@PState.get_name)))) (And.intro (And.intro (@PState.get_eqs) (And.intro (@PState.get_ways) (@PItem.len))) (And.intro (And.intro (@PItem.ones) (@PItem.pures)) (And.intro (@PItem.strip) (@PItem.norefs))))) (And.intro (And.intro (And.intro (@PItem.take) (And.intro (@PItem.drop) (@PItem.takeA))) (And.intro (And.intro (@PItem.dropA) (@PItem.sub_eq)) (And.intro (@PItem.sub0_eq) (@PItem.get_states)))) (And.intro (And.intro (@PEnum.len) (And.intro (@PEnum.ones) (@PEnum.pures))) (And.intro (And.intro (@PEnum.strip) (@PEnum.norefs)) (And.intro (@PEnum.take) (@PEnum.drop))))))) (And.intro (And.intro (And.intro (And.intro (And.intro (@PEnum.takeA) (And.intro (@PEnum.dropA) (@PEnum.get_name))) (And.intro (@PEnum.get_cons) (And.intro (@PNode.len) (@PNode.ones)))) (And.intro (And.intro (@PNode.pures) (And.intro (@PNode.strip) (@PNode.norefs))) (And.intro (And.intro (@PNode.take) (@PNode.drop)) (And.intro (@PNode.takeA) (@PNode.dropA))))) (And.intro (And.intro (And.intro (@PNode.get_name) (And.intro (@PNode.get_funs) (@PNode.get_ins))) (And.intro (And.intro (@PNode.get_outs) (@PNode.get_items)) (And.intro (@PProg.len) (@PProg.ones)))) (And.intro (And.intro (@PProg.pures) (And.intro (@PProg.strip) (@PProg.norefs))) (And.intro (And.intro (@PProg.take) (@PProg.drop)) (And.intro (@PProg.takeA) (@PProg.dropA)))))) (And.intro (And.intro (And.intro (And.intro (@PProg.get_enums) (And.intro (@PProg.get_nodes) (@PTok.len))) (And.intro (And.intro (@PTok.ones) (@PTok.pures)) (And.intro (@PTok.strip) (@PTok.norefs)))) (And.intro (And.intro (@PTok.take) (And.intro (@PTok.drop) (@PTok.takeA))) (And.intro (And.intro (@PTok.dropA) (@PTok.get_sort)) (And.intro (@PTok.get_text) (@PTok.get_n))))) (And.intro (And.intro (And.intro (@PTok.get_line) (And.intro (@PTok.get_col) (@PFault.len))) (And.intro (And.intro (@PFault.ones) (@PFault.pures)) (And.intro (@PFault.strip) (@PFault.norefs)))) (And.intro (And.intro (@PFault.take) (And.intro (@PFault.drop) (@PFault.takeA))) (And.intro (And.intro (@PFault.dropA) (@PFault.get_err)) (And.intro (@PFault.get_a) (@PFault.get_b)))))))) := And.intro (And.intro (And.intro (And.intro (And.intro (And.intro (@PEq.len) (And.intro (@PEq.ones) (@PEq.pures))) (And.intro (@PEq.strip) (And.intro (@PEq.norefs) (@PEq.take)))) (And.intro (And.intro (@PEq.drop) (And.intro (@PEq.takeA) (@PEq.dropA))) (And.intro (And.intro (@PEq.get_names) (@PEq.sub_e)) (And.intro (@PWay.len) (@PWay.ones))))) (And.intro (And.intro (And.intro (@PWay.pures) (And.intro (@PWay.strip) (@PWay.norefs))) (And.intro (And.intro (@PWay.take) (@PWay.drop)) (And.intro (@PWay.takeA) (@PWay.dropA)))) (And.intro (And.intro (@PWay.sub_cond) (And.intro (@PWay.sub0_cond) (@PWay.get_to))) (And.intro (And.intro (@PState.len) (@PState.ones)) (And.intro (@PState.pures) (@PState.strip)))))) (And.intro (And.intro (And.intro (And.intro (@PState.norefs) (And.intro (@PState.take) (@PState.drop))) (And.intro (@PState.takeA) (And.intro (@PState.dropA) (@PState.get_name)))) (And.intro (And.intro (@PState.get_eqs) (And.intro (@PState.get_ways) (@PItem.len))) (And.intro (And.intro (@PItem.ones) (@PItem.pures)) (And.intro (@PItem.strip) (@PItem.norefs))))) (And.intro (And.intro (And.intro (@PItem.take) (And.intro (@PItem.drop) (@PItem.takeA))) (And.intro (And.intro (@PItem.dropA) (@PItem.sub_eq)) (And.intro (@PItem.sub0_eq) (@PItem.get_states)))) (And.intro (And.intro (@PEnum.len) (And.intro (@PEnum.ones) (@PEnum.pures))) (And.intro (And.intro (@PEnum.strip) (@PEnum.norefs)) (And.intro (@PEnum.take) (@PEnum.drop))))))) (And.intro (And.intro (And.intro (And.intro (And.intro (@PEnum.takeA) (And.intro (@PEnum.dropA) (@PEnum.get_name))) (And.intro (@PEnum.get_cons) (And.intro (@PNode.len) (@PNode.ones)))) (And.intro (And.intro (@PNode.pures) (And.intro (@PNode.strip) (@PNode.norefs))) (And.intro (And.intro (@PNode.take) (@PNode.drop)) (And.intro (@PNode.takeA) (@PNode.dropA))))) (And.intro (And.intro (And.intro (@PNode.get_name) (And.intro (@PNode.get_funs) (@PNode.get_ins))) (And.intro (And.intro (@PNode.get_outs) (@PNode.get_items)) (And.intro (@PProg.len) (@PProg.ones)))) (And.intro (And.intro (@PProg.pures) (And.intro (@PProg.strip) (@PProg.norefs))) (And.intro (And.intro (@PProg.take) (@PProg.drop)) (And.intro (@PProg.takeA) (@PProg.dropA)))))) (And.intro (And.intro (And.intro (And.intro (@PProg.get_enums) (And.intro (@PProg.get_nodes) (@PTok.len))) (And.intro (And.intro (@PTok.ones) (@PTok.pures)) (And.intro (@PTok.strip) (@PTok.norefs)))) (And.intro (And.intro (@PTok.take) (And.intro (@PTok.drop) (@PTok.takeA))) (And.intro (And.intro (@PTok.dropA) (@PTok.get_sort)) (And.intro (@PTok.get_text) (@PTok.get_n))))) (And.intro (And.intro (And.intro (@PTok.get_line) (And.intro (@PTok.get_col) (@PFault.len))) (And.intro (And.intro (@PFault.ones) (@PFault.pures)) (And.intro (@PFault.strip) (@PFault.norefs)))) (And.intro (And.intro (@PFault.take) (And.intro (@PFault.drop) (@PFault.takeA))) (And.intro (And.intro (@PFault.dropA) (@PFault.get_err)) (And.intro (@PFault.get_a) (@PFault.get_b)))))))
end Go.Ab
