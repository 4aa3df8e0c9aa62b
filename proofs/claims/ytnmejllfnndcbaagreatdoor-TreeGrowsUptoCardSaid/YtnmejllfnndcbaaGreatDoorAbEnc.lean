/- The project's types, and how their values lie in the evaluator. -/
import Derived.Test.YtnmejllfnndcbaaGreatDoorAbLoop
namespace Go.Ab
abbrev Str := List UInt8
inductive PExpr where
  | mk (op : Int) (name : Str) (n : Int) (cons : List Str) (kids : List PExpr)
def PExpr.op : PExpr → Int | .mk op _ _ _ _ => op
def PExpr.name : PExpr → Str | .mk _ name _ _ _ => name
def PExpr.n : PExpr → Int | .mk _ _ n _ _ => n
def PExpr.cons : PExpr → List Str | .mk _ _ _ cons _ => cons
def PExpr.kids : PExpr → List PExpr | .mk _ _ _ _ kids => kids
def encStrs (l : List Str) : AVal := .slice (l.map fun s => [.str s]) .free
mutual
def PExpr.cells : PExpr → List AVal
  | .mk op name n cons kids => [.int .i64 op, .str name, .int .i64 n, encStrs cons, .slice (PExpr.cellsL kids) .free]
def PExpr.cellsL : List PExpr → List (List AVal)
  | [] => []
  | e :: r => e.cells :: PExpr.cellsL r
end
theorem cellsL_map (l : List PExpr) : PExpr.cellsL l = l.map PExpr.cells := by
  induction l with
  | nil => rfl
  | cons e r ih => simp [PExpr.cellsL, ih]
theorem PExpr.cells_eq (e : PExpr) : e.cells = [.int .i64 e.op, .str e.name, .int .i64 e.n, encStrs e.cons, .slice (e.kids.map PExpr.cells) .free] := by
  cases e; simp [PExpr.cells, PExpr.op, PExpr.name, PExpr.n, PExpr.cons, PExpr.kids, cellsL_map]

/-- What is asked of the cells of a struct. -/
structure CellsOk (n : Nat) (cs : List AVal) : Prop where
  len : cs.length = n
  refs : refsL cs = []
  strip : cs.map strip0 = cs
  one : cs.all oneA = true
  pure : cs.all pureA = true

theorem CellsOk.arg {n : Nat} {cs : List AVal} (h : CellsOk n cs) : argA (.agg cs) = .agg cs := by simp only [argA, h.strip]
theorem CellsOk.elem {n : Nat} {cs : List AVal} (h : CellsOk n cs) : elemCells cs = some cs := by
  unfold elemCells; simp only [h.strip, h.pure, if_true]
theorem CellsOk.strip3 {n : Nat} {cs : List AVal} (h : CellsOk n cs) : strip3 (.agg cs) = .agg cs := by simp only [Go.Ab.strip3, Go.Ab.strip2, h.strip]
theorem partA_whole {P : Program} {t n : Nat} {cs : List AVal} (ha : aggA P t = some true) (hs : sizeA P t = some n) (h : CellsOk n cs) : partA P t cs 0 = some (.agg cs) := by
  unfold partA
  simp only [ha, hs, List.drop_zero]
  rw [List.take_of_length_le (by rw [h.len]; exact Nat.le_refl _), if_pos h.len]
theorem setCells_all {vs cs : List AVal} (h : vs.length = cs.length) : setCells cs 0 vs = some vs := by
  cases cs with
  | nil => cases vs with
    | nil => rfl
    | cons => simp at h
  | cons c cs =>
    simp only [setCells]
    rw [if_pos (by omega), h, List.drop_length, List.append_nil]
theorem CellsOk.append {n m : Nat} {a b : List AVal} (h : CellsOk n a) (k : CellsOk m b) : CellsOk (n + m) (a ++ b) := by
  refine ⟨by simp [h.len, k.len], ?_, by simp [h.strip, k.strip], by simp [h.one, k.one], by simp [h.pure, k.pure]⟩
  have : ∀ l r : List AVal, refsL (l ++ r) = refsL l ++ refsL r := by
    intro l r
    induction l with
    | nil => rfl
    | cons x l ih => simp [refsL, ih]
  rw [this, h.refs, k.refs]; rfl

theorem PExpr.ok (e : PExpr) : CellsOk 5 e.cells := by
  rw [e.cells_eq]
  exact ⟨rfl, rfl, rfl, rfl, rfl⟩
theorem refs_agg {n : Nat} {cs : List AVal} (h : CellsOk n cs) : refs (.agg cs) = [] := by simp only [refs, h.refs]
end Go.Ab
