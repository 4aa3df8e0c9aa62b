/- Readings of expressions. -/
import Derived.Test.YtnmejllfnndcbaaGreatDoorAbRead
namespace Go.Ab
mutual
def PExpr.bulk : PExpr → Nat
  | .mk _ name _ cons kids => name.length + sumOf (fun s : Str => s.length + 1) cons + PExpr.bulkL kids + 6
def PExpr.bulkL : List PExpr → Nat
  | [] => 0
  | e :: r => e.bulk + PExpr.bulkL r
end
theorem bulkL_sum (l : List PExpr) : PExpr.bulkL l = sumOf PExpr.bulk l := by
  induction l with
  | nil => simp [PExpr.bulkL, sumOf]
  | cons e r ih => simp [PExpr.bulkL, sumOf, ih]
def i64ok (n : Int) : Prop := -9223372036854775808 ≤ n ∧ n ≤ 9223372036854775807
inductive PExpr.Rng : PExpr → Prop where
  | mk (op : Int) (name : Str) (n : Int) (cons : List Str) (kids : List PExpr) : i64ok op → i64ok n → (∀ k ∈ kids, k.Rng) → PExpr.Rng (.mk op name n cons kids)
theorem sumOf_len {X : Type} (f : X → Nat) (h : ∀ x, 1 ≤ f x) (l : List X) : l.length ≤ sumOf f l := by
  induction l with
  | nil => simp
  | cons x r ih => have := h x; simp only [List.length_cons, sumOf]; omega
theorem sumOf_mem {X : Type} (f : X → Nat) (l : List X) (x : X) (h : x ∈ l) : f x ≤ sumOf f l := by
  induction l with
  | nil => cases h
  | cons y r ih =>
    simp only [sumOf]
    rcases List.mem_cons.1 h with rfl | h
    · omega
    · have := ih h; omega
theorem strs_small (l : List Str) {n : Nat} (h : sumOf (fun s : Str => s.length + 1) l ≤ n) (hn : n ≤ lenTop) : StrsSmall l := by
  refine ⟨?_, fun s hs => ?_⟩
  · have := sumOf_len (fun s : Str => s.length + 1) (fun _ => by omega) l; omega
  · have := sumOf_mem (fun s : Str => s.length + 1) l s hs; have h2 : s.length + 1 ≤ sumOf (fun s : Str => s.length + 1) l := this; omega
theorem PExpr.small_of_bulk (e : PExpr) : ∀ n, e.bulk ≤ n → n ≤ lenTop → e.Small := by
  induction e using PExpr.induct with
  | h op name m cons kids ih =>
    intro n hn hl
    simp only [PExpr.bulk, bulkL_sum] at hn
    refine .mk _ _ _ _ _ (by omega) (strs_small cons (n := n) (by omega) hl) ?_ (fun k hk => ih k hk n ?_ hl)
    · have := sumOf_len PExpr.bulk (fun x => by cases x; simp [PExpr.bulk]) kids; omega
    · have := sumOf_mem PExpr.bulk kids k hk; omega
section
variable {H : Type} {enc : TypeId × Value → H} {P : Program} {w : World} {F : Nat → Option Obj} {B : DataW H → Nat} {BA : List (DataW H) → Nat}
theorem rd_strs (hB : Bulk B BA) (n : Nat) {t s : TypeId} (hu : P.underlying t = some (.slice s)) (hs : P.underlying s = some .string) (hc : P.cellsOf s = 1) :
    RdN enc P w F B n t (fun l : List Str => [encStrs l]) (fun _ => True) (fun l => sumOf (fun s : Str => s.length + 1) l + 1) := by
  intro fuel hf cs d h
  obtain ⟨x, h1, _, h3⟩ := (rd_slice (n := n) hB hu hc (Nat.one_pos) (fun x => rfl) (rd_str (enc := enc) (w := w) (F := F) hB n hs)) fuel (Nat.le_succ_of_le hf) cs d h
  exact ⟨x, h1, trivial, h3⟩
/-- The types of expressions. -/
structure ExprTy (P : Program) (t : TypeId) : Prop where
  of : ∃ ti ts tn tc te tk : TypeId, flds P t = some [(ti, 0), (ts, 1), (tn, 2), (tc, 3), (tk, 4)] ∧ P.cellsOf t = 5 ∧ P.underlying ti = some (.int .i64) ∧ P.cellsOf ti = 1 ∧ P.underlying ts = some .string ∧ P.cellsOf ts = 1 ∧
    P.underlying tn = some (.int .i64) ∧ P.cellsOf tn = 1 ∧ P.underlying tc = some (.slice te) ∧ P.cellsOf tc = 1 ∧ P.underlying te = some .string ∧ P.cellsOf te = 1 ∧ P.underlying tk = some (.slice t) ∧ P.cellsOf tk = 1
theorem rd_expr (hB : Bulk B BA) {t : TypeId} (ty : ExprTy P t) : ∀ n, RdN enc P w F B n t PExpr.cells PExpr.Rng PExpr.bulk := by
  obtain ⟨ti, ts, tn, tc, te, tk, hf, ht, hi, ci, hs, cs1, hn, cn, hc, cc, he, ce, hk, ck⟩ := ty.of
  intro n
  induction n with
  | zero => exact rd_zero
  | succ n ih =>
    intro fuel hfu cs d h
    obtain ⟨m, ds, rfl, rfl, hl, hfs⟩ := struct_inv hf h
    obtain ⟨d0, ds, rfl, h0, hfs⟩ := fields_cons hfs
    obtain ⟨d1, ds, rfl, h1, hfs⟩ := fields_cons hfs
    obtain ⟨d2, ds, rfl, h2, hfs⟩ := fields_cons hfs
    obtain ⟨d3, ds, rfl, h3, hfs⟩ := fields_cons hfs
    obtain ⟨d4, ds, rfl, h4, hfs⟩ := fields_cons hfs
    have := fields_nil hfs
    subst this
    rw [ht] at hl
    obtain ⟨op, v0, o0, b0⟩ := rd_int (enc := enc) (w := w) (F := F) hB m hi m (Nat.le_refl _) _ _ h0
    obtain ⟨name, v1, o1, b1⟩ := rd_str (enc := enc) (w := w) (F := F) hB m hs m (Nat.le_refl _) _ _ h1
    obtain ⟨k, v2, o2, b2⟩ := rd_int (enc := enc) (w := w) (F := F) hB m hn m (Nat.le_refl _) _ _ h2
    obtain ⟨cons, v3, o3, b3⟩ := rd_strs (enc := enc) (w := w) (F := F) hB m hc he ce m (Nat.le_refl _) _ _ h3
    obtain ⟨kids, v4, o4, b4⟩ := rd_slice (n := n) hB hk ht (by decide) (fun x => x.ok.pure) ih m (Nat.le_of_lt (by omega)) _ _ h4
    rw [ci] at v0; rw [cs1] at v1; rw [cn] at v2; rw [cc] at v3; rw [ck] at v4
    refine ⟨.mk op name k cons kids, ?_, .mk _ _ _ _ _ o0 o2 o4, ?_⟩
    · rw [PExpr.cells_eq]
      exact cells_split v0 (cells_split v1 (cells_split v2 (cells_split v3 (cells_split v4 (cells_end hl) rfl) rfl) rfl) rfl) rfl
    · simp only [PExpr.bulk, bulkL_sum, hB.agg, hB.consA, hB.nilA]
      simp only at b0 b1 b2 b3 b4
      omega
end
end Go.Ab
