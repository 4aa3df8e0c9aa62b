/- Readings of the project's structs. -/
import Derived.Test.YtnmejllfnndcbaaGreatDoorAbRead
import Derived.Test.YtnmejllfnndcbaaGreatDoorAbTypes
set_option linter.unusedSimpArgs false
set_option linter.unusedVariables false
namespace Go.Ab
def PEq.bulk (x : PEq) : Nat := (sumOf (fun s : Str => s.length + 1) x.names + 1) + x.e.bulk
def PEq.Rng (x : PEq) : Prop := x.e.Rng
def PWay.bulk (x : PWay) : Nat := x.cond.bulk + (x.to.length + 1)
def PWay.Rng (x : PWay) : Prop := x.cond.Rng
def PState.bulk (x : PState) : Nat := (x.name.length + 1) + (sumOf PEq.bulk x.eqs + 1) + (sumOf PWay.bulk x.ways + 1)
def PState.Rng (x : PState) : Prop := (∀ y ∈ x.eqs, PEq.Rng y) ∧ (∀ y ∈ x.ways, PWay.Rng y)
def PItem.bulk (x : PItem) : Nat := x.eq.bulk + (sumOf PState.bulk x.states + 1)
def PItem.Rng (x : PItem) : Prop := x.eq.Rng ∧ (∀ y ∈ x.states, PState.Rng y)
def PEnum.bulk (x : PEnum) : Nat := (x.name.length + 1) + (sumOf (fun s : Str => s.length + 1) x.cons + 1)
def PEnum.Rng (x : PEnum) : Prop := x = x
def PNode.bulk (x : PNode) : Nat := (x.name.length + 1) + (sumOf (fun s : Str => s.length + 1) x.funs + 1) + (sumOf (fun s : Str => s.length + 1) x.ins + 1) + (sumOf (fun s : Str => s.length + 1) x.outs + 1) + (sumOf PItem.bulk x.items + 1)
def PNode.Rng (x : PNode) : Prop := (∀ y ∈ x.items, PItem.Rng y)
def PProg.bulk (x : PProg) : Nat := (sumOf PEnum.bulk x.enums + 1) + (sumOf PNode.bulk x.nodes + 1)
def PProg.Rng (x : PProg) : Prop := (∀ y ∈ x.enums, PEnum.Rng y) ∧ (∀ y ∈ x.nodes, PNode.Rng y)
def PTok.bulk (x : PTok) : Nat := 1 + (x.text.length + 1) + 1 + 1 + 1
def PTok.Rng (x : PTok) : Prop := i64ok x.sort ∧ i64ok x.n ∧ i64ok x.line ∧ i64ok x.col
def PFault.bulk (_x : PFault) : Nat := 1 + 1 + 1
def PFault.Rng (x : PFault) : Prop := i64ok x.err ∧ i64ok x.a ∧ i64ok x.b
theorem PEq.bulk_pos (x : PEq) : 1 ≤ x.bulk := by
  unfold PEq.bulk; omega
theorem PEq.small_of_bulk (x : PEq) (n : Nat) (h : x.bulk ≤ n) (hn : n ≤ lenTop) : x.Small := by
  unfold PEq.bulk at h; unfold PEq.Small
  exact ⟨strs_small x.names (n := n) (by omega) hn, x.e.small_of_bulk n (by omega) hn⟩
theorem PWay.bulk_pos (x : PWay) : 1 ≤ x.bulk := by
  unfold PWay.bulk; omega
theorem PWay.small_of_bulk (x : PWay) (n : Nat) (h : x.bulk ≤ n) (hn : n ≤ lenTop) : x.Small := by
  unfold PWay.bulk at h; unfold PWay.Small
  exact ⟨x.cond.small_of_bulk n (by omega) hn, by omega⟩
theorem PState.bulk_pos (x : PState) : 1 ≤ x.bulk := by
  unfold PState.bulk; omega
theorem PState.small_of_bulk (x : PState) (n : Nat) (h : x.bulk ≤ n) (hn : n ≤ lenTop) : x.Small := by
  unfold PState.bulk at h; unfold PState.Small
  exact ⟨by omega, by have := sumOf_len PEq.bulk PEq.bulk_pos x.eqs; omega, fun y hy => y.small_of_bulk n (by have := sumOf_mem PEq.bulk x.eqs y hy; omega) hn, by have := sumOf_len PWay.bulk PWay.bulk_pos x.ways; omega, fun y hy => y.small_of_bulk n (by have := sumOf_mem PWay.bulk x.ways y hy; omega) hn⟩
theorem PItem.bulk_pos (x : PItem) : 1 ≤ x.bulk := by
  unfold PItem.bulk; have := x.eq.bulk_pos; omega
theorem PItem.small_of_bulk (x : PItem) (n : Nat) (h : x.bulk ≤ n) (hn : n ≤ lenTop) : x.Small := by
  unfold PItem.bulk at h; unfold PItem.Small
  exact ⟨x.eq.small_of_bulk n (by omega) hn, by have := sumOf_len PState.bulk PState.bulk_pos x.states; omega, fun y hy => y.small_of_bulk n (by have := sumOf_mem PState.bulk x.states y hy; omega) hn⟩
theorem PEnum.bulk_pos (x : PEnum) : 1 ≤ x.bulk := by
  unfold PEnum.bulk; omega
theorem PEnum.small_of_bulk (x : PEnum) (n : Nat) (h : x.bulk ≤ n) (hn : n ≤ lenTop) : x.Small := by
  unfold PEnum.bulk at h; unfold PEnum.Small
  exact ⟨by omega, strs_small x.cons (n := n) (by omega) hn⟩
theorem PNode.bulk_pos (x : PNode) : 1 ≤ x.bulk := by
  unfold PNode.bulk; omega
theorem PNode.small_of_bulk (x : PNode) (n : Nat) (h : x.bulk ≤ n) (hn : n ≤ lenTop) : x.Small := by
  unfold PNode.bulk at h; unfold PNode.Small
  exact ⟨by omega, strs_small x.funs (n := n) (by omega) hn, strs_small x.ins (n := n) (by omega) hn, strs_small x.outs (n := n) (by omega) hn, by have := sumOf_len PItem.bulk PItem.bulk_pos x.items; omega, fun y hy => y.small_of_bulk n (by have := sumOf_mem PItem.bulk x.items y hy; omega) hn⟩
theorem PProg.bulk_pos (x : PProg) : 1 ≤ x.bulk := by
  unfold PProg.bulk; omega
theorem PProg.small_of_bulk (x : PProg) (n : Nat) (h : x.bulk ≤ n) (hn : n ≤ lenTop) : x.Small := by
  unfold PProg.bulk at h; unfold PProg.Small
  exact ⟨by have := sumOf_len PEnum.bulk PEnum.bulk_pos x.enums; omega, fun y hy => y.small_of_bulk n (by have := sumOf_mem PEnum.bulk x.enums y hy; omega) hn, by have := sumOf_len PNode.bulk PNode.bulk_pos x.nodes; omega, fun y hy => y.small_of_bulk n (by have := sumOf_mem PNode.bulk x.nodes y hy; omega) hn⟩
theorem PTok.bulk_pos (x : PTok) : 1 ≤ x.bulk := by
  unfold PTok.bulk; omega
theorem PTok.small_of_bulk (x : PTok) (n : Nat) (h : x.bulk ≤ n) (hn : n ≤ lenTop) : x.Small := by
  unfold PTok.bulk at h; unfold PTok.Small
  exact by omega
theorem PFault.bulk_pos (x : PFault) : 1 ≤ x.bulk := by
  unfold PFault.bulk; omega
section
variable {H : Type} {enc : TypeId × Value → H} {P : Program} {w : World} {F : Nat → Option Obj} {B : DataW H → Nat} {BA : List (DataW H) → Nat}
structure PEqTy (P : Program) (t : TypeId) : Prop where
  of : ∃ t0 s0 t1 : TypeId, flds P t = some [(t0, 0), (t1, 1)] ∧ P.cellsOf t = 6 ∧ P.underlying t0 = some (.slice s0) ∧ P.cellsOf t0 = 1 ∧ P.underlying s0 = some .string ∧ P.cellsOf s0 = 1 ∧ ExprTy P t1 ∧ P.cellsOf t1 = 5
theorem rd_PEq (hB : Bulk B BA) {t : TypeId} (ty : PEqTy P t) (n : Nat) : RdN enc P w F B n t PEq.cells PEq.Rng PEq.bulk := by
  obtain ⟨t0, s0, t1, hf, ht, u0, c0, v0, d0, y1, c1⟩ := ty.of
  intro fuel hfu cs d h
  obtain ⟨m, ds, rfl, rfl, hl, hfs⟩ := struct_inv hf h
  obtain ⟨e0, ds, rfl, h0, hfs⟩ := fields_cons hfs
  obtain ⟨e1, ds, rfl, h1, hfs⟩ := fields_cons hfs
  have := fields_nil hfs
  subst this
  rw [ht] at hl
  obtain ⟨x0, w0, o0, b0⟩ := (rd_strs (enc := enc) (w := w) (F := F) hB m u0 v0 d0) m (Nat.le_refl _) _ _ h0
  rw [c0] at w0
  obtain ⟨x1, w1, o1, b1⟩ := (rd_expr (enc := enc) (w := w) (F := F) hB y1 m) m (Nat.le_refl _) _ _ h1
  rw [c1] at w1
  refine ⟨⟨x0, x1⟩, ?_, o1, ?_⟩
  · have q := cells_split w0 (cells_split w1 (cells_end hl) rfl) rfl
    simpa only [PEq.cells, List.append_nil, List.append_assoc, List.drop_zero] using q
  · simp only [PEq.bulk, hB.agg, hB.consA, hB.nilA]
    simp only at b0 b1
    omega
structure PWayTy (P : Program) (t : TypeId) : Prop where
  of : ∃ t0 t1 : TypeId, flds P t = some [(t0, 0), (t1, 5)] ∧ P.cellsOf t = 6 ∧ ExprTy P t0 ∧ P.cellsOf t0 = 5 ∧ P.underlying t1 = some .string ∧ P.cellsOf t1 = 1
theorem rd_PWay (hB : Bulk B BA) {t : TypeId} (ty : PWayTy P t) (n : Nat) : RdN enc P w F B n t PWay.cells PWay.Rng PWay.bulk := by
  obtain ⟨t0, t1, hf, ht, y0, c0, u1, c1⟩ := ty.of
  intro fuel hfu cs d h
  obtain ⟨m, ds, rfl, rfl, hl, hfs⟩ := struct_inv hf h
  obtain ⟨e0, ds, rfl, h0, hfs⟩ := fields_cons hfs
  obtain ⟨e1, ds, rfl, h1, hfs⟩ := fields_cons hfs
  have := fields_nil hfs
  subst this
  rw [ht] at hl
  obtain ⟨x0, w0, o0, b0⟩ := (rd_expr (enc := enc) (w := w) (F := F) hB y0 m) m (Nat.le_refl _) _ _ h0
  rw [c0] at w0
  obtain ⟨x1, w1, o1, b1⟩ := (rd_str (enc := enc) (w := w) (F := F) hB m u1) m (Nat.le_refl _) _ _ h1
  rw [c1] at w1
  refine ⟨⟨x0, x1⟩, ?_, o0, ?_⟩
  · have q := cells_split w0 (cells_split w1 (cells_end hl) rfl) rfl
    simpa only [PWay.cells, List.append_nil, List.append_assoc, List.drop_zero] using q
  · simp only [PWay.bulk, hB.agg, hB.consA, hB.nilA]
    simp only at b0 b1
    omega
structure PStateTy (P : Program) (t : TypeId) : Prop where
  of : ∃ t0 t1 s1 t2 s2 : TypeId, flds P t = some [(t0, 0), (t1, 1), (t2, 2)] ∧ P.cellsOf t = 3 ∧ P.underlying t0 = some .string ∧ P.cellsOf t0 = 1 ∧ P.underlying t1 = some (.slice s1) ∧ P.cellsOf t1 = 1 ∧ PEqTy P s1 ∧ P.cellsOf s1 = 6 ∧ P.underlying t2 = some (.slice s2) ∧ P.cellsOf t2 = 1 ∧ PWayTy P s2 ∧ P.cellsOf s2 = 6
theorem rd_PState (hB : Bulk B BA) {t : TypeId} (ty : PStateTy P t) (n : Nat) : RdN enc P w F B n t PState.cells PState.Rng PState.bulk := by
  obtain ⟨t0, t1, s1, t2, s2, hf, ht, u0, c0, u1, c1, y1, d1, u2, c2, y2, d2⟩ := ty.of
  intro fuel hfu cs d h
  obtain ⟨m, ds, rfl, rfl, hl, hfs⟩ := struct_inv hf h
  obtain ⟨e0, ds, rfl, h0, hfs⟩ := fields_cons hfs
  obtain ⟨e1, ds, rfl, h1, hfs⟩ := fields_cons hfs
  obtain ⟨e2, ds, rfl, h2, hfs⟩ := fields_cons hfs
  have := fields_nil hfs
  subst this
  rw [ht] at hl
  obtain ⟨x0, w0, o0, b0⟩ := (rd_str (enc := enc) (w := w) (F := F) hB m u0) m (Nat.le_refl _) _ _ h0
  rw [c0] at w0
  obtain ⟨x1, w1, o1, b1⟩ := (RdN.mono (rd_slice (n := m) hB u1 d1 (by decide) (fun x => x.ok.pure) (rd_PEq (enc := enc) (w := w) (F := F) hB y1 m)) (Nat.le_succ m)) m (Nat.le_refl _) _ _ h1
  rw [c1] at w1
  obtain ⟨x2, w2, o2, b2⟩ := (RdN.mono (rd_slice (n := m) hB u2 d2 (by decide) (fun x => x.ok.pure) (rd_PWay (enc := enc) (w := w) (F := F) hB y2 m)) (Nat.le_succ m)) m (Nat.le_refl _) _ _ h2
  rw [c2] at w2
  refine ⟨⟨x0, x1, x2⟩, ?_, ⟨o1, o2⟩, ?_⟩
  · have q := cells_split w0 (cells_split w1 (cells_split w2 (cells_end hl) rfl) rfl) rfl
    simpa only [PState.cells, List.append_nil, List.append_assoc, List.drop_zero] using q
  · simp only [PState.bulk, hB.agg, hB.consA, hB.nilA]
    simp only at b0 b1 b2
    omega
structure PItemTy (P : Program) (t : TypeId) : Prop where
  of : ∃ t0 t1 s1 : TypeId, flds P t = some [(t0, 0), (t1, 6)] ∧ P.cellsOf t = 7 ∧ PEqTy P t0 ∧ P.cellsOf t0 = 6 ∧ P.underlying t1 = some (.slice s1) ∧ P.cellsOf t1 = 1 ∧ PStateTy P s1 ∧ P.cellsOf s1 = 3
theorem rd_PItem (hB : Bulk B BA) {t : TypeId} (ty : PItemTy P t) (n : Nat) : RdN enc P w F B n t PItem.cells PItem.Rng PItem.bulk := by
  obtain ⟨t0, t1, s1, hf, ht, y0, c0, u1, c1, y1, d1⟩ := ty.of
  intro fuel hfu cs d h
  obtain ⟨m, ds, rfl, rfl, hl, hfs⟩ := struct_inv hf h
  obtain ⟨e0, ds, rfl, h0, hfs⟩ := fields_cons hfs
  obtain ⟨e1, ds, rfl, h1, hfs⟩ := fields_cons hfs
  have := fields_nil hfs
  subst this
  rw [ht] at hl
  obtain ⟨x0, w0, o0, b0⟩ := (rd_PEq (enc := enc) (w := w) (F := F) hB y0 m) m (Nat.le_refl _) _ _ h0
  rw [c0] at w0
  obtain ⟨x1, w1, o1, b1⟩ := (RdN.mono (rd_slice (n := m) hB u1 d1 (by decide) (fun x => x.ok.pure) (rd_PState (enc := enc) (w := w) (F := F) hB y1 m)) (Nat.le_succ m)) m (Nat.le_refl _) _ _ h1
  rw [c1] at w1
  refine ⟨⟨x0, x1⟩, ?_, ⟨o0, o1⟩, ?_⟩
  · have q := cells_split w0 (cells_split w1 (cells_end hl) rfl) rfl
    simpa only [PItem.cells, List.append_nil, List.append_assoc, List.drop_zero] using q
  · simp only [PItem.bulk, hB.agg, hB.consA, hB.nilA]
    simp only at b0 b1
    omega
structure PEnumTy (P : Program) (t : TypeId) : Prop where
  of : ∃ t0 t1 s1 : TypeId, flds P t = some [(t0, 0), (t1, 1)] ∧ P.cellsOf t = 2 ∧ P.underlying t0 = some .string ∧ P.cellsOf t0 = 1 ∧ P.underlying t1 = some (.slice s1) ∧ P.cellsOf t1 = 1 ∧ P.underlying s1 = some .string ∧ P.cellsOf s1 = 1
theorem rd_PEnum (hB : Bulk B BA) {t : TypeId} (ty : PEnumTy P t) (n : Nat) : RdN enc P w F B n t PEnum.cells PEnum.Rng PEnum.bulk := by
  obtain ⟨t0, t1, s1, hf, ht, u0, c0, u1, c1, v1, d1⟩ := ty.of
  intro fuel hfu cs d h
  obtain ⟨m, ds, rfl, rfl, hl, hfs⟩ := struct_inv hf h
  obtain ⟨e0, ds, rfl, h0, hfs⟩ := fields_cons hfs
  obtain ⟨e1, ds, rfl, h1, hfs⟩ := fields_cons hfs
  have := fields_nil hfs
  subst this
  rw [ht] at hl
  obtain ⟨x0, w0, o0, b0⟩ := (rd_str (enc := enc) (w := w) (F := F) hB m u0) m (Nat.le_refl _) _ _ h0
  rw [c0] at w0
  obtain ⟨x1, w1, o1, b1⟩ := (rd_strs (enc := enc) (w := w) (F := F) hB m u1 v1 d1) m (Nat.le_refl _) _ _ h1
  rw [c1] at w1
  refine ⟨⟨x0, x1⟩, ?_, rfl, ?_⟩
  · have q := cells_split w0 (cells_split w1 (cells_end hl) rfl) rfl
    simpa only [PEnum.cells, List.append_nil, List.append_assoc, List.drop_zero] using q
  · simp only [PEnum.bulk, hB.agg, hB.consA, hB.nilA]
    simp only at b0 b1
    omega
structure PNodeTy (P : Program) (t : TypeId) : Prop where
  of : ∃ t0 t1 s1 t2 s2 t3 s3 t4 s4 : TypeId, flds P t = some [(t0, 0), (t1, 1), (t2, 2), (t3, 3), (t4, 4)] ∧ P.cellsOf t = 5 ∧ P.underlying t0 = some .string ∧ P.cellsOf t0 = 1 ∧ P.underlying t1 = some (.slice s1) ∧ P.cellsOf t1 = 1 ∧ P.underlying s1 = some .string ∧ P.cellsOf s1 = 1 ∧ P.underlying t2 = some (.slice s2) ∧ P.cellsOf t2 = 1 ∧ P.underlying s2 = some .string ∧ P.cellsOf s2 = 1 ∧ P.underlying t3 = some (.slice s3) ∧ P.cellsOf t3 = 1 ∧ P.underlying s3 = some .string ∧ P.cellsOf s3 = 1 ∧ P.underlying t4 = some (.slice s4) ∧ P.cellsOf t4 = 1 ∧ PItemTy P s4 ∧ P.cellsOf s4 = 7
theorem rd_PNode (hB : Bulk B BA) {t : TypeId} (ty : PNodeTy P t) (n : Nat) : RdN enc P w F B n t PNode.cells PNode.Rng PNode.bulk := by
  obtain ⟨t0, t1, s1, t2, s2, t3, s3, t4, s4, hf, ht, u0, c0, u1, c1, v1, d1, u2, c2, v2, d2, u3, c3, v3, d3, u4, c4, y4, d4⟩ := ty.of
  intro fuel hfu cs d h
  obtain ⟨m, ds, rfl, rfl, hl, hfs⟩ := struct_inv hf h
  obtain ⟨e0, ds, rfl, h0, hfs⟩ := fields_cons hfs
  obtain ⟨e1, ds, rfl, h1, hfs⟩ := fields_cons hfs
  obtain ⟨e2, ds, rfl, h2, hfs⟩ := fields_cons hfs
  obtain ⟨e3, ds, rfl, h3, hfs⟩ := fields_cons hfs
  obtain ⟨e4, ds, rfl, h4, hfs⟩ := fields_cons hfs
  have := fields_nil hfs
  subst this
  rw [ht] at hl
  obtain ⟨x0, w0, o0, b0⟩ := (rd_str (enc := enc) (w := w) (F := F) hB m u0) m (Nat.le_refl _) _ _ h0
  rw [c0] at w0
  obtain ⟨x1, w1, o1, b1⟩ := (rd_strs (enc := enc) (w := w) (F := F) hB m u1 v1 d1) m (Nat.le_refl _) _ _ h1
  rw [c1] at w1
  obtain ⟨x2, w2, o2, b2⟩ := (rd_strs (enc := enc) (w := w) (F := F) hB m u2 v2 d2) m (Nat.le_refl _) _ _ h2
  rw [c2] at w2
  obtain ⟨x3, w3, o3, b3⟩ := (rd_strs (enc := enc) (w := w) (F := F) hB m u3 v3 d3) m (Nat.le_refl _) _ _ h3
  rw [c3] at w3
  obtain ⟨x4, w4, o4, b4⟩ := (RdN.mono (rd_slice (n := m) hB u4 d4 (by decide) (fun x => x.ok.pure) (rd_PItem (enc := enc) (w := w) (F := F) hB y4 m)) (Nat.le_succ m)) m (Nat.le_refl _) _ _ h4
  rw [c4] at w4
  refine ⟨⟨x0, x1, x2, x3, x4⟩, ?_, o4, ?_⟩
  · have q := cells_split w0 (cells_split w1 (cells_split w2 (cells_split w3 (cells_split w4 (cells_end hl) rfl) rfl) rfl) rfl) rfl
    simpa only [PNode.cells, List.append_nil, List.append_assoc, List.drop_zero] using q
  · simp only [PNode.bulk, hB.agg, hB.consA, hB.nilA]
    simp only at b0 b1 b2 b3 b4
    omega
structure PProgTy (P : Program) (t : TypeId) : Prop where
  of : ∃ t0 s0 t1 s1 : TypeId, flds P t = some [(t0, 0), (t1, 1)] ∧ P.cellsOf t = 2 ∧ P.underlying t0 = some (.slice s0) ∧ P.cellsOf t0 = 1 ∧ PEnumTy P s0 ∧ P.cellsOf s0 = 2 ∧ P.underlying t1 = some (.slice s1) ∧ P.cellsOf t1 = 1 ∧ PNodeTy P s1 ∧ P.cellsOf s1 = 5
theorem rd_PProg (hB : Bulk B BA) {t : TypeId} (ty : PProgTy P t) (n : Nat) : RdN enc P w F B n t PProg.cells PProg.Rng PProg.bulk := by
  obtain ⟨t0, s0, t1, s1, hf, ht, u0, c0, y0, d0, u1, c1, y1, d1⟩ := ty.of
  intro fuel hfu cs d h
  obtain ⟨m, ds, rfl, rfl, hl, hfs⟩ := struct_inv hf h
  obtain ⟨e0, ds, rfl, h0, hfs⟩ := fields_cons hfs
  obtain ⟨e1, ds, rfl, h1, hfs⟩ := fields_cons hfs
  have := fields_nil hfs
  subst this
  rw [ht] at hl
  obtain ⟨x0, w0, o0, b0⟩ := (RdN.mono (rd_slice (n := m) hB u0 d0 (by decide) (fun x => x.ok.pure) (rd_PEnum (enc := enc) (w := w) (F := F) hB y0 m)) (Nat.le_succ m)) m (Nat.le_refl _) _ _ h0
  rw [c0] at w0
  obtain ⟨x1, w1, o1, b1⟩ := (RdN.mono (rd_slice (n := m) hB u1 d1 (by decide) (fun x => x.ok.pure) (rd_PNode (enc := enc) (w := w) (F := F) hB y1 m)) (Nat.le_succ m)) m (Nat.le_refl _) _ _ h1
  rw [c1] at w1
  refine ⟨⟨x0, x1⟩, ?_, ⟨o0, o1⟩, ?_⟩
  · have q := cells_split w0 (cells_split w1 (cells_end hl) rfl) rfl
    simpa only [PProg.cells, List.append_nil, List.append_assoc, List.drop_zero] using q
  · simp only [PProg.bulk, hB.agg, hB.consA, hB.nilA]
    simp only at b0 b1
    omega
structure PTokTy (P : Program) (t : TypeId) : Prop where
  of : ∃ t0 t1 t2 t3 t4 : TypeId, flds P t = some [(t0, 0), (t1, 1), (t2, 2), (t3, 3), (t4, 4)] ∧ P.cellsOf t = 5 ∧ P.underlying t0 = some (.int .i64) ∧ P.cellsOf t0 = 1 ∧ P.underlying t1 = some .string ∧ P.cellsOf t1 = 1 ∧ P.underlying t2 = some (.int .i64) ∧ P.cellsOf t2 = 1 ∧ P.underlying t3 = some (.int .i64) ∧ P.cellsOf t3 = 1 ∧ P.underlying t4 = some (.int .i64) ∧ P.cellsOf t4 = 1
theorem rd_PTok (hB : Bulk B BA) {t : TypeId} (ty : PTokTy P t) (n : Nat) : RdN enc P w F B n t PTok.cells PTok.Rng PTok.bulk := by
  obtain ⟨t0, t1, t2, t3, t4, hf, ht, u0, c0, u1, c1, u2, c2, u3, c3, u4, c4⟩ := ty.of
  intro fuel hfu cs d h
  obtain ⟨m, ds, rfl, rfl, hl, hfs⟩ := struct_inv hf h
  obtain ⟨e0, ds, rfl, h0, hfs⟩ := fields_cons hfs
  obtain ⟨e1, ds, rfl, h1, hfs⟩ := fields_cons hfs
  obtain ⟨e2, ds, rfl, h2, hfs⟩ := fields_cons hfs
  obtain ⟨e3, ds, rfl, h3, hfs⟩ := fields_cons hfs
  obtain ⟨e4, ds, rfl, h4, hfs⟩ := fields_cons hfs
  have := fields_nil hfs
  subst this
  rw [ht] at hl
  obtain ⟨x0, w0, o0, b0⟩ := (rd_int (enc := enc) (w := w) (F := F) hB m u0) m (Nat.le_refl _) _ _ h0
  rw [c0] at w0
  obtain ⟨x1, w1, o1, b1⟩ := (rd_str (enc := enc) (w := w) (F := F) hB m u1) m (Nat.le_refl _) _ _ h1
  rw [c1] at w1
  obtain ⟨x2, w2, o2, b2⟩ := (rd_int (enc := enc) (w := w) (F := F) hB m u2) m (Nat.le_refl _) _ _ h2
  rw [c2] at w2
  obtain ⟨x3, w3, o3, b3⟩ := (rd_int (enc := enc) (w := w) (F := F) hB m u3) m (Nat.le_refl _) _ _ h3
  rw [c3] at w3
  obtain ⟨x4, w4, o4, b4⟩ := (rd_int (enc := enc) (w := w) (F := F) hB m u4) m (Nat.le_refl _) _ _ h4
  rw [c4] at w4
  refine ⟨⟨x0, x1, x2, x3, x4⟩, ?_, ⟨o0, o2, o3, o4⟩, ?_⟩
  · have q := cells_split w0 (cells_split w1 (cells_split w2 (cells_split w3 (cells_split w4 (cells_end hl) rfl) rfl) rfl) rfl) rfl
    simpa only [PTok.cells, List.append_nil, List.append_assoc, List.drop_zero] using q
  · simp only [PTok.bulk, hB.agg, hB.consA, hB.nilA]
    simp only at b0 b1 b2 b3 b4
    omega
structure PFaultTy (P : Program) (t : TypeId) : Prop where
  of : ∃ t0 t1 t2 : TypeId, flds P t = some [(t0, 0), (t1, 1), (t2, 2)] ∧ P.cellsOf t = 3 ∧ P.underlying t0 = some (.int .i64) ∧ P.cellsOf t0 = 1 ∧ P.underlying t1 = some (.int .i64) ∧ P.cellsOf t1 = 1 ∧ P.underlying t2 = some (.int .i64) ∧ P.cellsOf t2 = 1
theorem rd_PFault (hB : Bulk B BA) {t : TypeId} (ty : PFaultTy P t) (n : Nat) : RdN enc P w F B n t PFault.cells PFault.Rng PFault.bulk := by
  obtain ⟨t0, t1, t2, hf, ht, u0, c0, u1, c1, u2, c2⟩ := ty.of
  intro fuel hfu cs d h
  obtain ⟨m, ds, rfl, rfl, hl, hfs⟩ := struct_inv hf h
  obtain ⟨e0, ds, rfl, h0, hfs⟩ := fields_cons hfs
  obtain ⟨e1, ds, rfl, h1, hfs⟩ := fields_cons hfs
  obtain ⟨e2, ds, rfl, h2, hfs⟩ := fields_cons hfs
  have := fields_nil hfs
  subst this
  rw [ht] at hl
  obtain ⟨x0, w0, o0, b0⟩ := (rd_int (enc := enc) (w := w) (F := F) hB m u0) m (Nat.le_refl _) _ _ h0
  rw [c0] at w0
  obtain ⟨x1, w1, o1, b1⟩ := (rd_int (enc := enc) (w := w) (F := F) hB m u1) m (Nat.le_refl _) _ _ h1
  rw [c1] at w1
  obtain ⟨x2, w2, o2, b2⟩ := (rd_int (enc := enc) (w := w) (F := F) hB m u2) m (Nat.le_refl _) _ _ h2
  rw [c2] at w2
  refine ⟨⟨x0, x1, x2⟩, ?_, ⟨o0, o1, o2⟩, ?_⟩
  · have q := cells_split w0 (cells_split w1 (cells_split w2 (cells_end hl) rfl) rfl) rfl
    simpa only [PFault.cells, List.append_nil, List.append_assoc, List.drop_zero] using q
  · simp only [PFault.bulk, hB.agg, hB.consA, hB.nilA]
    simp only at b0 b1 b2
    omega
end
end Go.Ab
