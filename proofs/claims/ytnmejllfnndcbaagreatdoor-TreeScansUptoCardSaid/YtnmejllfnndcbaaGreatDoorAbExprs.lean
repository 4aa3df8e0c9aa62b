/- Which expressions may be, op for op. -/
import Derived.Test.YtnmejllfnndcbaaGreatDoorAbBox2
import Derived.Test.YtnmejllfnndcbaaGreatDoorAbRead
set_option linter.unusedSimpArgs false
set_option linter.unusedVariables false
namespace Go.Ab
open Go Go.Ab.Tab
set_option maxRecDepth 100000
set_option maxHeartbeats 4000000
set_option linter.unusedSimpArgs false
theorem index_full (l : List Str) (s : Str) (hl : l.length ≤ lenTop) : Ret C 162 [.slice (l.map fun s => [.str s]) .full, .str s] (.int .i64 (idxN s l 0)) := by
  refine Ret.mk rfl rfl ?_
  rw [C_fn rfl Go.Proofs.Tryz.func162 rfl (by kernel_rfl) (m := 17) rfl]; simp only [sims, core, pe, Nat.reduceAdd, Int.reduceBEq, Int.reduceBNe, Int.reduceLT, Int.reduceLE, Go.Proofs.Tryz.f162, fx_162, encStrs]
  generalize hb : codeB PP cmp0 C lpC _ = f; generalize hl0 : lpC f _ = r
  obtain ⟨ex, s', rfl, h2⟩ := lpC_at (α := Nat) hl0 [4, 5, 9, 10, 11, 12, 13, 14, 15, 16, 17, 18] (fun i => [(8, .int .i64 i)]) (fun i => i ≤ l.length) (fun i => l.length - i) (fun i => idxN s (l.drop i) i)
    (fun ts H r ex st => (ex = .exit 0 ∧ r = -1 ∧ At [4, 5, 8, 9, 10, 11, 12, 13, 14, 15, 16, 17, 18] ts H [] st) ∨ (ex = .ret ∧ At [5, 8, 9, 10, 11, 12, 13, 14, 15, 16, 17, 18] ts H [(4, .int .i64 r)] st)) 0 (Nat.zero_le _) (by simp only [At, ats, Int.natCast_zero]) (by
      intro i j H d hi
      clear hl0; subst hb
      by_cases hlt : i < l.length
      · have e1 : ((i : Int) < (l.length : Int)) := by omega
        have e3 := strs_get l i hlt
        simp only [sims, core, pe, Nat.reduceAdd, Int.reduceBEq, Int.reduceBNe, Int.reduceLT, Int.reduceLE, fx_162, e1, e3]
        cases hc : s == l[i]
        · simp only [sims, core, pe, Nat.reduceAdd, Int.reduceBEq, Int.reduceBNe, Int.reduceLT, Int.reduceLE, wrap_nat (show i ≤ lenTop by omega)]
          exact .inl ⟨i + 1, _, rfl, hlt, by simp only [At, ats, Int.natCast_zero], by simp only []; omega, by simp only [List.drop_eq_getElem_cons hlt, idxN, hc]; rfl⟩
        · simp only [sims, core, pe, Nat.reduceAdd, Int.reduceBEq, Int.reduceBNe, Int.reduceLT, Int.reduceLE]
          exact .inr ⟨_, _, rfl, by simp, .inr ⟨rfl, by simp only [List.drop_eq_getElem_cons hlt, idxN, hc, if_true, At, ats]⟩⟩
      · have e1 : ¬ ((i : Int) < (l.length : Int)) := by omega
        simp only [sims, core, pe, Nat.reduceAdd, Int.reduceBEq, Int.reduceBNe, Int.reduceLT, Int.reduceLE, fx_162, e1]
        exact .inr ⟨_, _, rfl, by simp, .inl ⟨rfl, by simp only []; rw [List.drop_eq_nil_of_le (by omega)]; rfl, by simp only [At, ats, Int.natCast_zero]⟩⟩)
  rw [List.drop_zero] at h2
  rcases h2 with ⟨rfl, hr, h2⟩ | ⟨rfl, h2⟩
  · obtain ⟨j, H, d, rfl⟩ := h2.elim
    clear hl0
    simp only [sims, core, pe, Nat.reduceAdd, Int.reduceBEq, Int.reduceBNe, Int.reduceLT, Int.reduceLE, hr]
  · obtain ⟨j, H, d, rfl⟩ := h2.elim
    clear hl0
    simp only [sims, core, pe, Nat.reduceAdd, Int.reduceBEq, Int.reduceBNe, Int.reduceLT, Int.reduceLE]
theorem contains_full (l : List Str) (s : Str) (hl : l.length ≤ lenTop) : Ret C 146 [.slice (l.map fun s => [.str s]) .full, .str s] (.bool (l.any (s == ·))) := by
  refine Ret.mk rfl rfl ?_
  have e1 := index_full l s hl
  rw [C_fn rfl Go.Proofs.Tryz.func146 rfl (by kernel_rfl) (m := 7) rfl]; simp only [sims, core, pe, Nat.reduceAdd, Int.reduceBEq, Int.reduceBNe, Int.reduceLT, Int.reduceLE, Go.Proofs.Tryz.f146, fx_146, e1 _, idxN_has]

theorem one1_c (l : List Str) (hl : l.length ≤ lenTop) (s : Str) : C 178 [.str s, .ptr 0 0] [.box [.slice (l.map fun s => [.str s]) .full]] = some (.ret (.bool (l.any (s == ·))) .same) := by
  have e1 := contains_full l s hl
  rw [C_fn rfl Go.Proofs.Tryz.func178 rfl (by kernel_rfl) (m := 5) rfl]; simp only [sims, core, pe, Nat.reduceAdd, Int.reduceBEq, Int.reduceBNe, Int.reduceLT, Int.reduceLE, Go.Proofs.Tryz.f178, fx_178, e1 _, leave_clean 1 _ _ [] (by simp)]
structure Wnt where
  nm : Option (Str → Bool)
  nn : Option (Int → Bool)
  cn : Str → Bool
  least : Int
  most : Int
  kl : Int
  km : Int
  am : Bool
def wnt (made : Bool) (op : Int) : Option Wnt :=
  if op = 1 then some ⟨none, some fun n => decide (0 ≤ n), fun _ => false, 0, 0, 0, 0, false⟩
  else if op = 2 then some ⟨none, some fun n => n == 0 || n == 1, fun _ => false, 0, 0, 0, 0, false⟩
  else if op = 3 then some ⟨some (conB made), none, fun _ => false, 0, 0, 0, 0, false⟩
  else if op = 4 then some ⟨some (nameB made), none, fun _ => false, 0, 0, 0, 0, false⟩
  else if op = 5 then some ⟨some fun s => unL.any (s == ·), none, fun _ => false, 0, 0, 1, 1, false⟩
  else if op = 6 then some ⟨some fun s => binL.any (s == ·), none, fun _ => false, 0, 0, 2, 2, false⟩
  else if op = 7 then some ⟨none, none, fun _ => false, 0, 0, 3, 3, false⟩
  else if op = 8 then some ⟨none, none, fun _ => false, 0, 0, 2, 2, false⟩
  else if op = 9 then some ⟨none, none, fun _ => false, 0, 0, 1, 1, false⟩
  else if op = 10 then some ⟨none, none, fun _ => false, 0, 0, 2, 2, false⟩
  else if op = 11 then some ⟨some (nameB made), none, conB made, 1, 1, 1, 1, false⟩
  else if op = 12 then some ⟨some (nameB made), none, conB made, 1, 8, 1, 8, true⟩
  else if op = 13 then some ⟨some (nameB made), none, conB made, 1, 8, 1, 8, true⟩
  else if op = 14 then some ⟨some (nameB made), none, nameB made, 0, 6, 1, 6, false⟩
  else if op = 15 then some ⟨none, none, fun _ => false, 0, 0, 2, 2, false⟩
  else none
def Wnt.b1 (w : Wnt) (name : Str) : Bool := match w.nm with | none => name == [] | some p => p name
def Wnt.b2 (w : Wnt) (n : Int) : Bool := match w.nn with | none => n == 0 | some p => p n
def Wnt.b3 (w : Wnt) (cons : List Str) : Bool := decide (w.least ≤ (cons.length : Int)) && decide ((cons.length : Int) ≤ w.most) && !cons.any fun s => !w.cn s
def first14 : List PExpr → Bool
  | [] => false
  | k :: _ => k.op == 14
def Wnt.head (w : Wnt) (op : Int) (name : Str) (n : Int) (cons : List Str) (kids : List PExpr) : Bool :=
  w.b1 name && w.b2 n && w.b3 cons && !decide ((kids.length : Int) < w.kl) && !decide (w.km < (kids.length : Int)) && !(w.am && ((cons.length : Int) != (kids.length : Int))) && !(op == 15 && !first14 kids)
mutual
def exprB (made : Bool) : PExpr → Bool
  | .mk op name n cons kids => (match wnt made op with | none => false | some w => w.head op name n cons kids) && !badKid made kids
def badKid (made : Bool) : List PExpr → Bool
  | [] => false
  | k :: r => !exprB made k || badKid made r
end
theorem badKid_any (made : Bool) (l : List PExpr) : badKid made l = l.any fun k => !exprB made k := by
  induction l with
  | nil => rfl
  | cons k r ih => simp only [badKid, ih, List.any_cons]
theorem exprB_eq (made : Bool) (e : PExpr) : exprB made e = ((match wnt made e.op with | none => false | some w => w.head e.op e.name e.n e.cons e.kids) && !(e.kids.any fun k => !exprB made k)) := by
  cases e; simp only [exprB, badKid_any, PExpr.op, PExpr.name, PExpr.n, PExpr.cons, PExpr.kids]
theorem ofn_1 (z : Int) : Ret C 173 [.int .i64 z] (.bool (decide (0 ≤ z))) := by
  refine Ret.mk rfl rfl ?_
  rw [C_fn rfl Go.Proofs.Tryz.func173 rfl (by kernel_rfl) (m := 4) rfl]; simp only [sims, core, pe, Nat.reduceAdd, Int.reduceBEq, Int.reduceBNe, Int.reduceLT, Int.reduceLE, Go.Proofs.Tryz.f173, fx_173]
theorem or_one (z : Int) (hz : i64ok z) : (IntKind.wrap .i64 ((BitVec.ofInt 64 z ||| BitVec.ofInt 64 1).toNat : Int) == 1) = (z == 0 || z == 1) := by
  obtain ⟨h1, h2⟩ := hz
  have e1 : (BitVec.ofInt 64 1).toNat = 1 := rfl
  have e2 : ((BitVec.ofInt 64 z).toNat : Int) = z % 18446744073709551616 := by
    rw [BitVec.toNat_ofInt]
    omega
  rw [BitVec.toNat_or, e1]
  generalize (BitVec.ofInt 64 z).toNat = x at *
  have hx : x < 18446744073709551616 := by omega
  have hb : x ||| 1 < 18446744073709551616 := Nat.or_lt_two_pow (n := 64) hx (by decide)
  have hl : x ≤ x ||| 1 := Nat.left_le_or
  have hw : (IntKind.wrap .i64 ((x ||| 1 : Nat) : Int) == 1) = decide (x ||| 1 = 1) := by
    have : IntKind.wrap .i64 ((x ||| 1 : Nat) : Int) = 1 ↔ x ||| 1 = 1 := by
      generalize x ||| 1 = m at *
      have hb2 : IntKind.bits .i64 = 64 := rfl
      have hs : IntKind.signed .i64 = true := rfl
      simp only [IntKind.wrap, hb2, hs, Bool.true_and, decide_eq_true_eq]
      have : ((2 : Int) ^ 64) = 18446744073709551616 := by decide
      have : ((2 : Int) ^ (64 - 1)) = 9223372036854775808 := by decide
      split <;> omega
    rw [Bool.eq_iff_iff]
    simp only [beq_iff_eq, decide_eq_true_eq]
    exact this
  rw [hw]
  have hm : x ||| 1 = 1 ↔ x ≤ 1 := by
    constructor
    · intro h; omega
    · intro h
      rcases Nat.le_one_iff_eq_zero_or_eq_one.1 h with rfl | rfl <;> rfl
  rw [Bool.eq_iff_iff]
  simp only [decide_eq_true_eq, hm, Bool.or_eq_true, beq_iff_eq]
  omega
theorem ofn_2 (z : Int) (hz : i64ok z) : Ret C 174 [.int .i64 z] (.bool (z == 0 || z == 1)) := by
  refine Ret.mk rfl rfl ?_
  rw [C_fn rfl Go.Proofs.Tryz.func174 rfl (by kernel_rfl) (m := 5) rfl]; simp only [sims, core, pe, Nat.reduceAdd, Int.reduceBEq, Int.reduceBNe, Int.reduceLT, Int.reduceLE, Go.Proofs.Tryz.f174, fx_174]
  exact congrArg (fun b => some (CR.ret (.bool b) .same)) (or_one z hz)
theorem all_zero (l : List Str) (hl : l.length ≤ lenTop) (h : FuncId) (ws : List AVal) (hws : refsL ws = []) :
    C 56 [encStrs l, .int .i64 0, .int .i64 0, .func h [] [.ptr 0 0]] [.box ws] = some (.ret (.bool (decide ((0 : Int) ≤ l.length) && decide ((l.length : Int) ≤ 0) && !l.any fun _ => !false)) .same) := by
  cases l with
  | nil => exact all_h [] (Nat.zero_le _) 0 0 h ws hws (fun _ => false) (fun x hx => by cases hx)
  | cons x r =>
    have e1 : decide (((r.length + 1 : Nat) : Int) ≤ 0) = false := decide_eq_false (by omega)
    have e2 : decide ((0 : Int) ≤ ((r.length + 1 : Nat) : Int)) = true := decide_eq_true (by omega)
    rw [C_fn rfl Go.Proofs.Tryz.func56 rfl (by kernel_rfl) (m := 21) rfl]; simp only [sims, core, pe, Nat.reduceAdd, Int.reduceBEq, Int.reduceBNe, Int.reduceLT, Int.reduceLE, Go.Proofs.Tryz.f56, fx_56, encStrs, e1, e2, leave_clean 1 _ _ [] (by simp)]
theorem zero_and (n : Nat) (b c : Bool) : (decide ((0 : Int) ≤ n) && b && c) = (b && c) := by
  rw [decide_eq_true (Int.natCast_nonneg n), Bool.true_and]
theorem none_eq (l : List Str) : (decide ((0 : Int) ≤ l.length) && decide ((l.length : Int) ≤ 0) && !l.any fun _ => !false) = decide ((l.length : Int) ≤ 0) := by
  cases l with
  | nil => rfl
  | cons x r =>
    have e1 : decide (((r.length + 1 : Nat) : Int) ≤ 0) = false := decide_eq_false (by omega)
    simp only [List.length_cons, e1, Bool.and_false, Bool.false_and]
theorem expr_1 (made : Bool) (e : PExpr) (hop : e.op = 1) (hs : e.Small) (_hr : i64ok e.n)
    (hk : ∀ H, callA C (.box [.bool made] :: H) 165 [.slice (e.kids.map PExpr.cells) .free, .func 166 [] [.ptr 0 0]] = some (.ret (.bool (e.kids.any fun x => !exprB made x)) .same)) :
    C 151 [fieldA made, .agg e.cells] [] = some (.ret (.bool (exprB made e)) .same) := by
  have hw : exprB made e = ((e.name == []) && decide (0 ≤ e.n) && (decide ((0 : Int) ≤ (e.cons.length : Int)) && decide ((e.cons.length : Int) ≤ 0) && !e.cons.any fun _ => !false) && !decide ((e.kids.length : Int) < 0) && !decide ((0 : Int) < (e.kids.length : Int)) && !(false && !((e.cons.length : Int) == (e.kids.length : Int))) && !(false && !first14 e.kids) && !(e.kids.any fun k => !exprB made k)) := by
    rw [exprB_eq, hop]; rfl
  rw [hw]; clear hw
  have e1 := of_1 made
  unfold OfR fieldA at e1
  have e4 := ofn_1 e.n
  have e3 : ∀ H, callA C (.box [.bool made] :: .box e.cells :: .box [.nilf, (.func 173 [] []), .nilf, .int .i64 0, .int .i64 0, .int .i64 0, .int .i64 0, .bool false] :: H) 56 [encStrs e.cons, .int .i64 0, .int .i64 0, .func 164 [] [.ptr 2 0]] = some (.ret (.bool (decide ((e.cons.length : Int) ≤ 0))) .same) := fun H =>
    none_eq e.cons ▸ callA_box1 (b := 2) _ rfl rfl rfl (all_zero e.cons hs.cons.1 _ (wantsA .nilf (.func 173 [] []) .nilf 0 0 0 0 false).cells rfl) rfl
  rw [none_eq]
  rw [C_fn rfl Go.Proofs.Tryz.func151 rfl (by kernel_rfl) (m := 107) rfl]; simp only [sims, core, pe, Nat.reduceAdd, Int.reduceBEq, Int.reduceBNe, Int.reduceLT, Int.reduceLE, Go.Proofs.Tryz.f151, fx_151, fieldA, hop, hk, bne, e1 _, e4 _, e3]
  cases h1 : (e.name == [])
  · simp only [sims, core, pe, Nat.reduceAdd, Int.reduceBEq, Int.reduceBNe, Int.reduceLT, Int.reduceLE, fx_151, hop, hk, bne, e1 _, e4 _, e3, h1]
  cases h2 : decide (0 ≤ e.n)
  · simp only [sims, core, pe, Nat.reduceAdd, Int.reduceBEq, Int.reduceBNe, Int.reduceLT, Int.reduceLE, fx_151, hop, hk, bne, e1 _, e4 _, e3, h1, h2]
  cases h3 : decide ((e.cons.length : Int) ≤ 0)
  · simp only [sims, core, pe, Nat.reduceAdd, Int.reduceBEq, Int.reduceBNe, Int.reduceLT, Int.reduceLE, fx_151, hop, hk, bne, e1 _, e4 _, e3, h1, h2, h3]
  cases h4 : decide ((e.kids.length : Int) < 0)
  rotate_left
  · simp only [sims, core, pe, Nat.reduceAdd, Int.reduceBEq, Int.reduceBNe, Int.reduceLT, Int.reduceLE, fx_151, hop, hk, bne, e1 _, e4 _, e3, h1, h2, h3, h4]
  cases h5 : decide ((0 : Int) < (e.kids.length : Int))
  rotate_left
  · simp only [sims, core, pe, Nat.reduceAdd, Int.reduceBEq, Int.reduceBNe, Int.reduceLT, Int.reduceLE, fx_151, hop, hk, bne, e1 _, e4 _, e3, h1, h2, h3, h4, h5]
  simp only [sims, core, pe, Nat.reduceAdd, Int.reduceBEq, Int.reduceBNe, Int.reduceLT, Int.reduceLE, fx_151, hop, hk, bne, e1 _, e4 _, e3, h1, h2, h3, h4, h5]
theorem expr_2 (made : Bool) (e : PExpr) (hop : e.op = 2) (hs : e.Small) (hr : i64ok e.n)
    (hk : ∀ H, callA C (.box [.bool made] :: H) 165 [.slice (e.kids.map PExpr.cells) .free, .func 166 [] [.ptr 0 0]] = some (.ret (.bool (e.kids.any fun x => !exprB made x)) .same)) :
    C 151 [fieldA made, .agg e.cells] [] = some (.ret (.bool (exprB made e)) .same) := by
  have hw : exprB made e = ((e.name == []) && (e.n == 0 || e.n == 1) && (decide ((0 : Int) ≤ (e.cons.length : Int)) && decide ((e.cons.length : Int) ≤ 0) && !e.cons.any fun _ => !false) && !decide ((e.kids.length : Int) < 0) && !decide ((0 : Int) < (e.kids.length : Int)) && !(false && !((e.cons.length : Int) == (e.kids.length : Int))) && !(false && !first14 e.kids) && !(e.kids.any fun k => !exprB made k)) := by
    rw [exprB_eq, hop]; rfl
  rw [hw]; clear hw
  have e1 := of_2 made
  unfold OfR fieldA at e1
  have e4 := ofn_2 e.n hr
  have e3 : ∀ H, callA C (.box [.bool made] :: .box e.cells :: .box [.nilf, (.func 174 [] []), .nilf, .int .i64 0, .int .i64 0, .int .i64 0, .int .i64 0, .bool false] :: H) 56 [encStrs e.cons, .int .i64 0, .int .i64 0, .func 164 [] [.ptr 2 0]] = some (.ret (.bool (decide ((e.cons.length : Int) ≤ 0))) .same) := fun H =>
    none_eq e.cons ▸ callA_box1 (b := 2) _ rfl rfl rfl (all_zero e.cons hs.cons.1 _ (wantsA .nilf (.func 174 [] []) .nilf 0 0 0 0 false).cells rfl) rfl
  rw [none_eq]
  rw [C_fn rfl Go.Proofs.Tryz.func151 rfl (by kernel_rfl) (m := 107) rfl]; simp only [sims, core, pe, Nat.reduceAdd, Int.reduceBEq, Int.reduceBNe, Int.reduceLT, Int.reduceLE, Go.Proofs.Tryz.f151, fx_151, fieldA, hop, hk, bne, e1 _, e4 _, e3]
  cases h1 : (e.name == [])
  · simp only [sims, core, pe, Nat.reduceAdd, Int.reduceBEq, Int.reduceBNe, Int.reduceLT, Int.reduceLE, fx_151, hop, hk, bne, e1 _, e4 _, e3, h1]
  cases h2 : (e.n == 0 || e.n == 1)
  · simp only [sims, core, pe, Nat.reduceAdd, Int.reduceBEq, Int.reduceBNe, Int.reduceLT, Int.reduceLE, fx_151, hop, hk, bne, e1 _, e4 _, e3, h1, h2]
  cases h3 : decide ((e.cons.length : Int) ≤ 0)
  · simp only [sims, core, pe, Nat.reduceAdd, Int.reduceBEq, Int.reduceBNe, Int.reduceLT, Int.reduceLE, fx_151, hop, hk, bne, e1 _, e4 _, e3, h1, h2, h3]
  cases h4 : decide ((e.kids.length : Int) < 0)
  rotate_left
  · simp only [sims, core, pe, Nat.reduceAdd, Int.reduceBEq, Int.reduceBNe, Int.reduceLT, Int.reduceLE, fx_151, hop, hk, bne, e1 _, e4 _, e3, h1, h2, h3, h4]
  cases h5 : decide ((0 : Int) < (e.kids.length : Int))
  rotate_left
  · simp only [sims, core, pe, Nat.reduceAdd, Int.reduceBEq, Int.reduceBNe, Int.reduceLT, Int.reduceLE, fx_151, hop, hk, bne, e1 _, e4 _, e3, h1, h2, h3, h4, h5]
  simp only [sims, core, pe, Nat.reduceAdd, Int.reduceBEq, Int.reduceBNe, Int.reduceLT, Int.reduceLE, fx_151, hop, hk, bne, e1 _, e4 _, e3, h1, h2, h3, h4, h5]
theorem expr_3 (made : Bool) (e : PExpr) (hop : e.op = 3) (hs : e.Small) (_hr : i64ok e.n)
    (hk : ∀ H, callA C (.box [.bool made] :: H) 165 [.slice (e.kids.map PExpr.cells) .free, .func 166 [] [.ptr 0 0]] = some (.ret (.bool (e.kids.any fun x => !exprB made x)) .same)) :
    C 151 [fieldA made, .agg e.cells] [] = some (.ret (.bool (exprB made e)) .same) := by
  have hw : exprB made e = (conB made e.name && (e.n == 0) && (decide ((0 : Int) ≤ (e.cons.length : Int)) && decide ((e.cons.length : Int) ≤ 0) && !e.cons.any fun _ => !false) && !decide ((e.kids.length : Int) < 0) && !decide ((0 : Int) < (e.kids.length : Int)) && !(false && !((e.cons.length : Int) == (e.kids.length : Int))) && !(false && !first14 e.kids) && !(e.kids.any fun k => !exprB made k)) := by
    rw [exprB_eq, hop]; rfl
  rw [hw]; clear hw
  have e1 := of_3 made
  unfold OfR fieldA at e1
  have e2 := con_c made e.name hs.name
  unfold fieldA at e2
  have e3 : ∀ H, callA C (.box [.bool made] :: .box e.cells :: .box [(fCon made), .nilf, .nilf, .int .i64 0, .int .i64 0, .int .i64 0, .int .i64 0, .bool false] :: H) 56 [encStrs e.cons, .int .i64 0, .int .i64 0, .func 164 [] [.ptr 2 0]] = some (.ret (.bool (decide ((e.cons.length : Int) ≤ 0))) .same) := fun H =>
    none_eq e.cons ▸ callA_box1 (b := 2) _ rfl rfl rfl (all_zero e.cons hs.cons.1 _ (wantsA (fCon made) .nilf .nilf 0 0 0 0 false).cells rfl) rfl
  unfold fieldA at e3
  rw [none_eq]
  rw [C_fn rfl Go.Proofs.Tryz.func151 rfl (by kernel_rfl) (m := 107) rfl]; simp only [sims, core, pe, Nat.reduceAdd, Int.reduceBEq, Int.reduceBNe, Int.reduceLT, Int.reduceLE, Go.Proofs.Tryz.f151, fx_151, fieldA, hop, hk, bne, e1 _, e2 _, e3]
  cases h1 : conB made e.name
  · simp only [sims, core, pe, Nat.reduceAdd, Int.reduceBEq, Int.reduceBNe, Int.reduceLT, Int.reduceLE, fx_151, hop, hk, bne, e1 _, e2 _, e3, h1]
  cases h2 : (e.n == 0)
  · simp only [sims, core, pe, Nat.reduceAdd, Int.reduceBEq, Int.reduceBNe, Int.reduceLT, Int.reduceLE, fx_151, hop, hk, bne, e1 _, e2 _, e3, h1, h2]
  cases h3 : decide ((e.cons.length : Int) ≤ 0)
  · simp only [sims, core, pe, Nat.reduceAdd, Int.reduceBEq, Int.reduceBNe, Int.reduceLT, Int.reduceLE, fx_151, hop, hk, bne, e1 _, e2 _, e3, h1, h2, h3]
  cases h4 : decide ((e.kids.length : Int) < 0)
  rotate_left
  · simp only [sims, core, pe, Nat.reduceAdd, Int.reduceBEq, Int.reduceBNe, Int.reduceLT, Int.reduceLE, fx_151, hop, hk, bne, e1 _, e2 _, e3, h1, h2, h3, h4]
  cases h5 : decide ((0 : Int) < (e.kids.length : Int))
  rotate_left
  · simp only [sims, core, pe, Nat.reduceAdd, Int.reduceBEq, Int.reduceBNe, Int.reduceLT, Int.reduceLE, fx_151, hop, hk, bne, e1 _, e2 _, e3, h1, h2, h3, h4, h5]
  simp only [sims, core, pe, Nat.reduceAdd, Int.reduceBEq, Int.reduceBNe, Int.reduceLT, Int.reduceLE, fx_151, hop, hk, bne, e1 _, e2 _, e3, h1, h2, h3, h4, h5]
theorem expr_4 (made : Bool) (e : PExpr) (hop : e.op = 4) (hs : e.Small) (_hr : i64ok e.n)
    (hk : ∀ H, callA C (.box [.bool made] :: H) 165 [.slice (e.kids.map PExpr.cells) .free, .func 166 [] [.ptr 0 0]] = some (.ret (.bool (e.kids.any fun x => !exprB made x)) .same)) :
    C 151 [fieldA made, .agg e.cells] [] = some (.ret (.bool (exprB made e)) .same) := by
  have hw : exprB made e = (nameB made e.name && (e.n == 0) && (decide ((0 : Int) ≤ (e.cons.length : Int)) && decide ((e.cons.length : Int) ≤ 0) && !e.cons.any fun _ => !false) && !decide ((e.kids.length : Int) < 0) && !decide ((0 : Int) < (e.kids.length : Int)) && !(false && !((e.cons.length : Int) == (e.kids.length : Int))) && !(false && !first14 e.kids) && !(e.kids.any fun k => !exprB made k)) := by
    rw [exprB_eq, hop]; rfl
  rw [hw]; clear hw
  have e1 := of_4 made
  unfold OfR fieldA at e1
  have e2 := name_c made e.name hs.name
  unfold fieldA at e2
  have e3 : ∀ H, callA C (.box [.bool made] :: .box e.cells :: .box [(fName made), .nilf, .nilf, .int .i64 0, .int .i64 0, .int .i64 0, .int .i64 0, .bool false] :: H) 56 [encStrs e.cons, .int .i64 0, .int .i64 0, .func 164 [] [.ptr 2 0]] = some (.ret (.bool (decide ((e.cons.length : Int) ≤ 0))) .same) := fun H =>
    none_eq e.cons ▸ callA_box1 (b := 2) _ rfl rfl rfl (all_zero e.cons hs.cons.1 _ (wantsA (fName made) .nilf .nilf 0 0 0 0 false).cells rfl) rfl
  unfold fieldA at e3
  rw [none_eq]
  rw [C_fn rfl Go.Proofs.Tryz.func151 rfl (by kernel_rfl) (m := 107) rfl]; simp only [sims, core, pe, Nat.reduceAdd, Int.reduceBEq, Int.reduceBNe, Int.reduceLT, Int.reduceLE, Go.Proofs.Tryz.f151, fx_151, fieldA, hop, hk, bne, e1 _, e2 _, e3]
  cases h1 : nameB made e.name
  · simp only [sims, core, pe, Nat.reduceAdd, Int.reduceBEq, Int.reduceBNe, Int.reduceLT, Int.reduceLE, fx_151, hop, hk, bne, e1 _, e2 _, e3, h1]
  cases h2 : (e.n == 0)
  · simp only [sims, core, pe, Nat.reduceAdd, Int.reduceBEq, Int.reduceBNe, Int.reduceLT, Int.reduceLE, fx_151, hop, hk, bne, e1 _, e2 _, e3, h1, h2]
  cases h3 : decide ((e.cons.length : Int) ≤ 0)
  · simp only [sims, core, pe, Nat.reduceAdd, Int.reduceBEq, Int.reduceBNe, Int.reduceLT, Int.reduceLE, fx_151, hop, hk, bne, e1 _, e2 _, e3, h1, h2, h3]
  cases h4 : decide ((e.kids.length : Int) < 0)
  rotate_left
  · simp only [sims, core, pe, Nat.reduceAdd, Int.reduceBEq, Int.reduceBNe, Int.reduceLT, Int.reduceLE, fx_151, hop, hk, bne, e1 _, e2 _, e3, h1, h2, h3, h4]
  cases h5 : decide ((0 : Int) < (e.kids.length : Int))
  rotate_left
  · simp only [sims, core, pe, Nat.reduceAdd, Int.reduceBEq, Int.reduceBNe, Int.reduceLT, Int.reduceLE, fx_151, hop, hk, bne, e1 _, e2 _, e3, h1, h2, h3, h4, h5]
  simp only [sims, core, pe, Nat.reduceAdd, Int.reduceBEq, Int.reduceBNe, Int.reduceLT, Int.reduceLE, fx_151, hop, hk, bne, e1 _, e2 _, e3, h1, h2, h3, h4, h5]
theorem expr_5 (made : Bool) (e : PExpr) (hop : e.op = 5) (hs : e.Small) (_hr : i64ok e.n)
    (hk : ∀ H, callA C (.box [.bool made] :: H) 165 [.slice (e.kids.map PExpr.cells) .free, .func 166 [] [.ptr 0 0]] = some (.ret (.bool (e.kids.any fun x => !exprB made x)) .same)) :
    C 151 [fieldA made, .agg e.cells] [] = some (.ret (.bool (exprB made e)) .same) := by
  have hw : exprB made e = (unL.any (e.name == ·) && (e.n == 0) && (decide ((0 : Int) ≤ (e.cons.length : Int)) && decide ((e.cons.length : Int) ≤ 0) && !e.cons.any fun _ => !false) && !decide ((e.kids.length : Int) < 1) && !decide ((1 : Int) < (e.kids.length : Int)) && !(false && !((e.cons.length : Int) == (e.kids.length : Int))) && !(false && !first14 e.kids) && !(e.kids.any fun k => !exprB made k)) := by
    rw [exprB_eq, hop]; rfl
  rw [hw]; clear hw
  have e1 : callA C [.box [.bool made], .box e.cells] 163 [.agg [.bool made], .int .i64 5] = some (.ret (.tuple [oneW 4 1, .bool true]) (.heap [.box [.bool made], .box e.cells, .box [.bool made], .box [.func 178 [] [.ptr 4 0], .nilf, .nilf, .int .i64 0, .int .i64 0, .int .i64 1, .int .i64 1, .bool false], .box [.slice (unL.map fun s => [.str s]) .full]] [])) := by
    have e0 := of_5 made
    unfold fieldA at e0
    unfold callA
    simp only [refsL_cons, refs_agg', refs_bool, refs_int, refsL_nil, List.append_nil, reach, subOk, List.all_nil, Bool.and_self, if_true, renL, ren, subH, List.map_nil, e0]
    rfl
  have e2 : ∀ H, callA C (.box [.bool made] :: .box e.cells :: .box [.bool made] :: .box [.func 178 [] [.ptr 4 0], .nilf, .nilf, .int .i64 0, .int .i64 0, .int .i64 1, .int .i64 1, .bool false] :: .box [.slice (unL.map fun s => [.str s]) .full] :: H) 178 [.str e.name, .ptr 4 0] = some (.ret (.bool (unL.any (e.name == ·))) .same) := fun H =>
    callA_box1 (b := 4) _ rfl rfl rfl (one1_c unL (by decide) e.name) rfl
  have e3 : ∀ H, callA C (.box [.bool made] :: .box e.cells :: .box [.bool made] :: .box [.func 178 [] [.ptr 4 0], .nilf, .nilf, .int .i64 0, .int .i64 0, .int .i64 1, .int .i64 1, .bool false] :: .box [.slice (unL.map fun s => [.str s]) .full] :: .box [.func 178 [] [.ptr 4 0], .nilf, .nilf, .int .i64 0, .int .i64 0, .int .i64 1, .int .i64 1, .bool false] :: H) 56 [encStrs e.cons, .int .i64 0, .int .i64 0, .func 164 [] [.ptr 5 0]] = some (.ret (.bool (decide ((e.cons.length : Int) ≤ 0))) .same) := fun H =>
    callA_box2 (b := 5) (b' := 4) _ rfl rfl rfl rfl rfl rfl (all_none e.cons (oneW 1 1).cells unL (by simp)) rfl
  rw [none_eq]
  rw [C_fn rfl Go.Proofs.Tryz.func151 rfl (by kernel_rfl) (m := 107) rfl]; simp only [sims, core, pe, Nat.reduceAdd, Int.reduceBEq, Int.reduceBNe, Int.reduceLT, Int.reduceLE, Go.Proofs.Tryz.f151, fx_151, fieldA, hop, hk, bne, e1, e2, e3]
  cases h1 : unL.any (e.name == ·)
  · simp only [sims, core, pe, Nat.reduceAdd, Int.reduceBEq, Int.reduceBNe, Int.reduceLT, Int.reduceLE, fx_151, hop, hk, bne, e1, e2, e3, h1]
  cases h2 : (e.n == 0)
  · simp only [sims, core, pe, Nat.reduceAdd, Int.reduceBEq, Int.reduceBNe, Int.reduceLT, Int.reduceLE, fx_151, hop, hk, bne, e1, e2, e3, h1, h2]
  cases h3 : decide ((e.cons.length : Int) ≤ 0)
  · simp only [sims, core, pe, Nat.reduceAdd, Int.reduceBEq, Int.reduceBNe, Int.reduceLT, Int.reduceLE, fx_151, hop, hk, bne, e1, e2, e3, h1, h2, h3]
  cases h4 : decide ((e.kids.length : Int) < 1)
  rotate_left
  · simp only [sims, core, pe, Nat.reduceAdd, Int.reduceBEq, Int.reduceBNe, Int.reduceLT, Int.reduceLE, fx_151, hop, hk, bne, e1, e2, e3, h1, h2, h3, h4]
  cases h5 : decide ((1 : Int) < (e.kids.length : Int))
  rotate_left
  · simp only [sims, core, pe, Nat.reduceAdd, Int.reduceBEq, Int.reduceBNe, Int.reduceLT, Int.reduceLE, fx_151, hop, hk, bne, e1, e2, e3, h1, h2, h3, h4, h5]
  simp only [sims, core, pe, Nat.reduceAdd, Int.reduceBEq, Int.reduceBNe, Int.reduceLT, Int.reduceLE, fx_151, hop, hk, bne, e1, e2, e3, h1, h2, h3, h4, h5]
theorem expr_6 (made : Bool) (e : PExpr) (hop : e.op = 6) (hs : e.Small) (_hr : i64ok e.n)
    (hk : ∀ H, callA C (.box [.bool made] :: H) 165 [.slice (e.kids.map PExpr.cells) .free, .func 166 [] [.ptr 0 0]] = some (.ret (.bool (e.kids.any fun x => !exprB made x)) .same)) :
    C 151 [fieldA made, .agg e.cells] [] = some (.ret (.bool (exprB made e)) .same) := by
  have hw : exprB made e = (binL.any (e.name == ·) && (e.n == 0) && (decide ((0 : Int) ≤ (e.cons.length : Int)) && decide ((e.cons.length : Int) ≤ 0) && !e.cons.any fun _ => !false) && !decide ((e.kids.length : Int) < 2) && !decide ((2 : Int) < (e.kids.length : Int)) && !(false && !((e.cons.length : Int) == (e.kids.length : Int))) && !(false && !first14 e.kids) && !(e.kids.any fun k => !exprB made k)) := by
    rw [exprB_eq, hop]; rfl
  rw [hw]; clear hw
  have e1 : callA C [.box [.bool made], .box e.cells] 163 [.agg [.bool made], .int .i64 6] = some (.ret (.tuple [oneW 4 2, .bool true]) (.heap [.box [.bool made], .box e.cells, .box [.bool made], .box [.func 178 [] [.ptr 4 0], .nilf, .nilf, .int .i64 0, .int .i64 0, .int .i64 2, .int .i64 2, .bool false], .box [.slice (binL.map fun s => [.str s]) .full]] [])) := by
    have e0 := of_6 made
    unfold fieldA at e0
    unfold callA
    simp only [refsL_cons, refs_agg', refs_bool, refs_int, refsL_nil, List.append_nil, reach, subOk, List.all_nil, Bool.and_self, if_true, renL, ren, subH, List.map_nil, e0]
    rfl
  have e2 : ∀ H, callA C (.box [.bool made] :: .box e.cells :: .box [.bool made] :: .box [.func 178 [] [.ptr 4 0], .nilf, .nilf, .int .i64 0, .int .i64 0, .int .i64 2, .int .i64 2, .bool false] :: .box [.slice (binL.map fun s => [.str s]) .full] :: H) 178 [.str e.name, .ptr 4 0] = some (.ret (.bool (binL.any (e.name == ·))) .same) := fun H =>
    callA_box1 (b := 4) _ rfl rfl rfl (one1_c binL (by decide) e.name) rfl
  have e3 : ∀ H, callA C (.box [.bool made] :: .box e.cells :: .box [.bool made] :: .box [.func 178 [] [.ptr 4 0], .nilf, .nilf, .int .i64 0, .int .i64 0, .int .i64 2, .int .i64 2, .bool false] :: .box [.slice (binL.map fun s => [.str s]) .full] :: .box [.func 178 [] [.ptr 4 0], .nilf, .nilf, .int .i64 0, .int .i64 0, .int .i64 2, .int .i64 2, .bool false] :: H) 56 [encStrs e.cons, .int .i64 0, .int .i64 0, .func 164 [] [.ptr 5 0]] = some (.ret (.bool (decide ((e.cons.length : Int) ≤ 0))) .same) := fun H =>
    callA_box2 (b := 5) (b' := 4) _ rfl rfl rfl rfl rfl rfl (all_none e.cons (oneW 1 2).cells binL (by simp)) rfl
  rw [none_eq]
  rw [C_fn rfl Go.Proofs.Tryz.func151 rfl (by kernel_rfl) (m := 107) rfl]; simp only [sims, core, pe, Nat.reduceAdd, Int.reduceBEq, Int.reduceBNe, Int.reduceLT, Int.reduceLE, Go.Proofs.Tryz.f151, fx_151, fieldA, hop, hk, bne, e1, e2, e3]
  cases h1 : binL.any (e.name == ·)
  · simp only [sims, core, pe, Nat.reduceAdd, Int.reduceBEq, Int.reduceBNe, Int.reduceLT, Int.reduceLE, fx_151, hop, hk, bne, e1, e2, e3, h1]
  cases h2 : (e.n == 0)
  · simp only [sims, core, pe, Nat.reduceAdd, Int.reduceBEq, Int.reduceBNe, Int.reduceLT, Int.reduceLE, fx_151, hop, hk, bne, e1, e2, e3, h1, h2]
  cases h3 : decide ((e.cons.length : Int) ≤ 0)
  · simp only [sims, core, pe, Nat.reduceAdd, Int.reduceBEq, Int.reduceBNe, Int.reduceLT, Int.reduceLE, fx_151, hop, hk, bne, e1, e2, e3, h1, h2, h3]
  cases h4 : decide ((e.kids.length : Int) < 2)
  rotate_left
  · simp only [sims, core, pe, Nat.reduceAdd, Int.reduceBEq, Int.reduceBNe, Int.reduceLT, Int.reduceLE, fx_151, hop, hk, bne, e1, e2, e3, h1, h2, h3, h4]
  cases h5 : decide ((2 : Int) < (e.kids.length : Int))
  rotate_left
  · simp only [sims, core, pe, Nat.reduceAdd, Int.reduceBEq, Int.reduceBNe, Int.reduceLT, Int.reduceLE, fx_151, hop, hk, bne, e1, e2, e3, h1, h2, h3, h4, h5]
  simp only [sims, core, pe, Nat.reduceAdd, Int.reduceBEq, Int.reduceBNe, Int.reduceLT, Int.reduceLE, fx_151, hop, hk, bne, e1, e2, e3, h1, h2, h3, h4, h5]
theorem expr_7 (made : Bool) (e : PExpr) (hop : e.op = 7) (hs : e.Small) (_hr : i64ok e.n)
    (hk : ∀ H, callA C (.box [.bool made] :: H) 165 [.slice (e.kids.map PExpr.cells) .free, .func 166 [] [.ptr 0 0]] = some (.ret (.bool (e.kids.any fun x => !exprB made x)) .same)) :
    C 151 [fieldA made, .agg e.cells] [] = some (.ret (.bool (exprB made e)) .same) := by
  have hw : exprB made e = ((e.name == []) && (e.n == 0) && (decide ((0 : Int) ≤ (e.cons.length : Int)) && decide ((e.cons.length : Int) ≤ 0) && !e.cons.any fun _ => !false) && !decide ((e.kids.length : Int) < 3) && !decide ((3 : Int) < (e.kids.length : Int)) && !(false && !((e.cons.length : Int) == (e.kids.length : Int))) && !(false && !first14 e.kids) && !(e.kids.any fun k => !exprB made k)) := by
    rw [exprB_eq, hop]; rfl
  rw [hw]; clear hw
  have e1 := of_7 made
  unfold OfR fieldA at e1
  have e3 : ∀ H, callA C (.box [.bool made] :: .box e.cells :: .box [.nilf, .nilf, .nilf, .int .i64 0, .int .i64 0, .int .i64 3, .int .i64 3, .bool false] :: H) 56 [encStrs e.cons, .int .i64 0, .int .i64 0, .func 164 [] [.ptr 2 0]] = some (.ret (.bool (decide ((e.cons.length : Int) ≤ 0))) .same) := fun H =>
    none_eq e.cons ▸ callA_box1 (b := 2) _ rfl rfl rfl (all_zero e.cons hs.cons.1 _ (wantsA .nilf .nilf .nilf 0 0 3 3 false).cells rfl) rfl
  rw [none_eq]
  rw [C_fn rfl Go.Proofs.Tryz.func151 rfl (by kernel_rfl) (m := 107) rfl]; simp only [sims, core, pe, Nat.reduceAdd, Int.reduceBEq, Int.reduceBNe, Int.reduceLT, Int.reduceLE, Go.Proofs.Tryz.f151, fx_151, fieldA, hop, hk, bne, e1 _, e3]
  cases h1 : (e.name == [])
  · simp only [sims, core, pe, Nat.reduceAdd, Int.reduceBEq, Int.reduceBNe, Int.reduceLT, Int.reduceLE, fx_151, hop, hk, bne, e1 _, e3, h1]
  cases h2 : (e.n == 0)
  · simp only [sims, core, pe, Nat.reduceAdd, Int.reduceBEq, Int.reduceBNe, Int.reduceLT, Int.reduceLE, fx_151, hop, hk, bne, e1 _, e3, h1, h2]
  cases h3 : decide ((e.cons.length : Int) ≤ 0)
  · simp only [sims, core, pe, Nat.reduceAdd, Int.reduceBEq, Int.reduceBNe, Int.reduceLT, Int.reduceLE, fx_151, hop, hk, bne, e1 _, e3, h1, h2, h3]
  cases h4 : decide ((e.kids.length : Int) < 3)
  rotate_left
  · simp only [sims, core, pe, Nat.reduceAdd, Int.reduceBEq, Int.reduceBNe, Int.reduceLT, Int.reduceLE, fx_151, hop, hk, bne, e1 _, e3, h1, h2, h3, h4]
  cases h5 : decide ((3 : Int) < (e.kids.length : Int))
  rotate_left
  · simp only [sims, core, pe, Nat.reduceAdd, Int.reduceBEq, Int.reduceBNe, Int.reduceLT, Int.reduceLE, fx_151, hop, hk, bne, e1 _, e3, h1, h2, h3, h4, h5]
  simp only [sims, core, pe, Nat.reduceAdd, Int.reduceBEq, Int.reduceBNe, Int.reduceLT, Int.reduceLE, fx_151, hop, hk, bne, e1 _, e3, h1, h2, h3, h4, h5]
theorem expr_8 (made : Bool) (e : PExpr) (hop : e.op = 8) (hs : e.Small) (_hr : i64ok e.n)
    (hk : ∀ H, callA C (.box [.bool made] :: H) 165 [.slice (e.kids.map PExpr.cells) .free, .func 166 [] [.ptr 0 0]] = some (.ret (.bool (e.kids.any fun x => !exprB made x)) .same)) :
    C 151 [fieldA made, .agg e.cells] [] = some (.ret (.bool (exprB made e)) .same) := by
  have hw : exprB made e = ((e.name == []) && (e.n == 0) && (decide ((0 : Int) ≤ (e.cons.length : Int)) && decide ((e.cons.length : Int) ≤ 0) && !e.cons.any fun _ => !false) && !decide ((e.kids.length : Int) < 2) && !decide ((2 : Int) < (e.kids.length : Int)) && !(false && !((e.cons.length : Int) == (e.kids.length : Int))) && !(false && !first14 e.kids) && !(e.kids.any fun k => !exprB made k)) := by
    rw [exprB_eq, hop]; rfl
  rw [hw]; clear hw
  have e1 := of_8 made
  unfold OfR fieldA at e1
  have e3 : ∀ H, callA C (.box [.bool made] :: .box e.cells :: .box [.nilf, .nilf, .nilf, .int .i64 0, .int .i64 0, .int .i64 2, .int .i64 2, .bool false] :: H) 56 [encStrs e.cons, .int .i64 0, .int .i64 0, .func 164 [] [.ptr 2 0]] = some (.ret (.bool (decide ((e.cons.length : Int) ≤ 0))) .same) := fun H =>
    none_eq e.cons ▸ callA_box1 (b := 2) _ rfl rfl rfl (all_zero e.cons hs.cons.1 _ (wantsA .nilf .nilf .nilf 0 0 2 2 false).cells rfl) rfl
  rw [none_eq]
  rw [C_fn rfl Go.Proofs.Tryz.func151 rfl (by kernel_rfl) (m := 107) rfl]; simp only [sims, core, pe, Nat.reduceAdd, Int.reduceBEq, Int.reduceBNe, Int.reduceLT, Int.reduceLE, Go.Proofs.Tryz.f151, fx_151, fieldA, hop, hk, bne, e1 _, e3]
  cases h1 : (e.name == [])
  · simp only [sims, core, pe, Nat.reduceAdd, Int.reduceBEq, Int.reduceBNe, Int.reduceLT, Int.reduceLE, fx_151, hop, hk, bne, e1 _, e3, h1]
  cases h2 : (e.n == 0)
  · simp only [sims, core, pe, Nat.reduceAdd, Int.reduceBEq, Int.reduceBNe, Int.reduceLT, Int.reduceLE, fx_151, hop, hk, bne, e1 _, e3, h1, h2]
  cases h3 : decide ((e.cons.length : Int) ≤ 0)
  · simp only [sims, core, pe, Nat.reduceAdd, Int.reduceBEq, Int.reduceBNe, Int.reduceLT, Int.reduceLE, fx_151, hop, hk, bne, e1 _, e3, h1, h2, h3]
  cases h4 : decide ((e.kids.length : Int) < 2)
  rotate_left
  · simp only [sims, core, pe, Nat.reduceAdd, Int.reduceBEq, Int.reduceBNe, Int.reduceLT, Int.reduceLE, fx_151, hop, hk, bne, e1 _, e3, h1, h2, h3, h4]
  cases h5 : decide ((2 : Int) < (e.kids.length : Int))
  rotate_left
  · simp only [sims, core, pe, Nat.reduceAdd, Int.reduceBEq, Int.reduceBNe, Int.reduceLT, Int.reduceLE, fx_151, hop, hk, bne, e1 _, e3, h1, h2, h3, h4, h5]
  simp only [sims, core, pe, Nat.reduceAdd, Int.reduceBEq, Int.reduceBNe, Int.reduceLT, Int.reduceLE, fx_151, hop, hk, bne, e1 _, e3, h1, h2, h3, h4, h5]
theorem expr_9 (made : Bool) (e : PExpr) (hop : e.op = 9) (hs : e.Small) (_hr : i64ok e.n)
    (hk : ∀ H, callA C (.box [.bool made] :: H) 165 [.slice (e.kids.map PExpr.cells) .free, .func 166 [] [.ptr 0 0]] = some (.ret (.bool (e.kids.any fun x => !exprB made x)) .same)) :
    C 151 [fieldA made, .agg e.cells] [] = some (.ret (.bool (exprB made e)) .same) := by
  have hw : exprB made e = ((e.name == []) && (e.n == 0) && (decide ((0 : Int) ≤ (e.cons.length : Int)) && decide ((e.cons.length : Int) ≤ 0) && !e.cons.any fun _ => !false) && !decide ((e.kids.length : Int) < 1) && !decide ((1 : Int) < (e.kids.length : Int)) && !(false && !((e.cons.length : Int) == (e.kids.length : Int))) && !(false && !first14 e.kids) && !(e.kids.any fun k => !exprB made k)) := by
    rw [exprB_eq, hop]; rfl
  rw [hw]; clear hw
  have e1 := of_9 made
  unfold OfR fieldA at e1
  have e3 : ∀ H, callA C (.box [.bool made] :: .box e.cells :: .box [.nilf, .nilf, .nilf, .int .i64 0, .int .i64 0, .int .i64 1, .int .i64 1, .bool false] :: H) 56 [encStrs e.cons, .int .i64 0, .int .i64 0, .func 164 [] [.ptr 2 0]] = some (.ret (.bool (decide ((e.cons.length : Int) ≤ 0))) .same) := fun H =>
    none_eq e.cons ▸ callA_box1 (b := 2) _ rfl rfl rfl (all_zero e.cons hs.cons.1 _ (wantsA .nilf .nilf .nilf 0 0 1 1 false).cells rfl) rfl
  rw [none_eq]
  rw [C_fn rfl Go.Proofs.Tryz.func151 rfl (by kernel_rfl) (m := 107) rfl]; simp only [sims, core, pe, Nat.reduceAdd, Int.reduceBEq, Int.reduceBNe, Int.reduceLT, Int.reduceLE, Go.Proofs.Tryz.f151, fx_151, fieldA, hop, hk, bne, e1 _, e3]
  cases h1 : (e.name == [])
  · simp only [sims, core, pe, Nat.reduceAdd, Int.reduceBEq, Int.reduceBNe, Int.reduceLT, Int.reduceLE, fx_151, hop, hk, bne, e1 _, e3, h1]
  cases h2 : (e.n == 0)
  · simp only [sims, core, pe, Nat.reduceAdd, Int.reduceBEq, Int.reduceBNe, Int.reduceLT, Int.reduceLE, fx_151, hop, hk, bne, e1 _, e3, h1, h2]
  cases h3 : decide ((e.cons.length : Int) ≤ 0)
  · simp only [sims, core, pe, Nat.reduceAdd, Int.reduceBEq, Int.reduceBNe, Int.reduceLT, Int.reduceLE, fx_151, hop, hk, bne, e1 _, e3, h1, h2, h3]
  cases h4 : decide ((e.kids.length : Int) < 1)
  rotate_left
  · simp only [sims, core, pe, Nat.reduceAdd, Int.reduceBEq, Int.reduceBNe, Int.reduceLT, Int.reduceLE, fx_151, hop, hk, bne, e1 _, e3, h1, h2, h3, h4]
  cases h5 : decide ((1 : Int) < (e.kids.length : Int))
  rotate_left
  · simp only [sims, core, pe, Nat.reduceAdd, Int.reduceBEq, Int.reduceBNe, Int.reduceLT, Int.reduceLE, fx_151, hop, hk, bne, e1 _, e3, h1, h2, h3, h4, h5]
  simp only [sims, core, pe, Nat.reduceAdd, Int.reduceBEq, Int.reduceBNe, Int.reduceLT, Int.reduceLE, fx_151, hop, hk, bne, e1 _, e3, h1, h2, h3, h4, h5]
theorem expr_10 (made : Bool) (e : PExpr) (hop : e.op = 10) (hs : e.Small) (_hr : i64ok e.n)
    (hk : ∀ H, callA C (.box [.bool made] :: H) 165 [.slice (e.kids.map PExpr.cells) .free, .func 166 [] [.ptr 0 0]] = some (.ret (.bool (e.kids.any fun x => !exprB made x)) .same)) :
    C 151 [fieldA made, .agg e.cells] [] = some (.ret (.bool (exprB made e)) .same) := by
  have hw : exprB made e = ((e.name == []) && (e.n == 0) && (decide ((0 : Int) ≤ (e.cons.length : Int)) && decide ((e.cons.length : Int) ≤ 0) && !e.cons.any fun _ => !false) && !decide ((e.kids.length : Int) < 2) && !decide ((2 : Int) < (e.kids.length : Int)) && !(false && !((e.cons.length : Int) == (e.kids.length : Int))) && !(false && !first14 e.kids) && !(e.kids.any fun k => !exprB made k)) := by
    rw [exprB_eq, hop]; rfl
  rw [hw]; clear hw
  have e1 := of_10 made
  unfold OfR fieldA at e1
  have e3 : ∀ H, callA C (.box [.bool made] :: .box e.cells :: .box [.nilf, .nilf, .nilf, .int .i64 0, .int .i64 0, .int .i64 2, .int .i64 2, .bool false] :: H) 56 [encStrs e.cons, .int .i64 0, .int .i64 0, .func 164 [] [.ptr 2 0]] = some (.ret (.bool (decide ((e.cons.length : Int) ≤ 0))) .same) := fun H =>
    none_eq e.cons ▸ callA_box1 (b := 2) _ rfl rfl rfl (all_zero e.cons hs.cons.1 _ (wantsA .nilf .nilf .nilf 0 0 2 2 false).cells rfl) rfl
  rw [none_eq]
  rw [C_fn rfl Go.Proofs.Tryz.func151 rfl (by kernel_rfl) (m := 107) rfl]; simp only [sims, core, pe, Nat.reduceAdd, Int.reduceBEq, Int.reduceBNe, Int.reduceLT, Int.reduceLE, Go.Proofs.Tryz.f151, fx_151, fieldA, hop, hk, bne, e1 _, e3]
  cases h1 : (e.name == [])
  · simp only [sims, core, pe, Nat.reduceAdd, Int.reduceBEq, Int.reduceBNe, Int.reduceLT, Int.reduceLE, fx_151, hop, hk, bne, e1 _, e3, h1]
  cases h2 : (e.n == 0)
  · simp only [sims, core, pe, Nat.reduceAdd, Int.reduceBEq, Int.reduceBNe, Int.reduceLT, Int.reduceLE, fx_151, hop, hk, bne, e1 _, e3, h1, h2]
  cases h3 : decide ((e.cons.length : Int) ≤ 0)
  · simp only [sims, core, pe, Nat.reduceAdd, Int.reduceBEq, Int.reduceBNe, Int.reduceLT, Int.reduceLE, fx_151, hop, hk, bne, e1 _, e3, h1, h2, h3]
  cases h4 : decide ((e.kids.length : Int) < 2)
  rotate_left
  · simp only [sims, core, pe, Nat.reduceAdd, Int.reduceBEq, Int.reduceBNe, Int.reduceLT, Int.reduceLE, fx_151, hop, hk, bne, e1 _, e3, h1, h2, h3, h4]
  cases h5 : decide ((2 : Int) < (e.kids.length : Int))
  rotate_left
  · simp only [sims, core, pe, Nat.reduceAdd, Int.reduceBEq, Int.reduceBNe, Int.reduceLT, Int.reduceLE, fx_151, hop, hk, bne, e1 _, e3, h1, h2, h3, h4, h5]
  simp only [sims, core, pe, Nat.reduceAdd, Int.reduceBEq, Int.reduceBNe, Int.reduceLT, Int.reduceLE, fx_151, hop, hk, bne, e1 _, e3, h1, h2, h3, h4, h5]
theorem expr_11 (made : Bool) (e : PExpr) (hop : e.op = 11) (hs : e.Small) (_hr : i64ok e.n)
    (hk : ∀ H, callA C (.box [.bool made] :: H) 165 [.slice (e.kids.map PExpr.cells) .free, .func 166 [] [.ptr 0 0]] = some (.ret (.bool (e.kids.any fun x => !exprB made x)) .same)) :
    C 151 [fieldA made, .agg e.cells] [] = some (.ret (.bool (exprB made e)) .same) := by
  have hw : exprB made e = (nameB made e.name && (e.n == 0) && (decide ((1 : Int) ≤ (e.cons.length : Int)) && decide ((e.cons.length : Int) ≤ 1) && !e.cons.any fun s => !conB made s) && !decide ((e.kids.length : Int) < 1) && !decide ((1 : Int) < (e.kids.length : Int)) && !(false && !((e.cons.length : Int) == (e.kids.length : Int))) && !(false && !first14 e.kids) && !(e.kids.any fun k => !exprB made k)) := by
    rw [exprB_eq, hop]; rfl
  rw [hw]; clear hw
  have e1 := of_11 made
  unfold OfR fieldA at e1
  have e2 := name_c made e.name hs.name
  unfold fieldA at e2
  have e3 : ∀ H, callA C (.box [.bool made] :: .box e.cells :: .box [(fName made), .nilf, (fCon made), .int .i64 1, .int .i64 1, .int .i64 1, .int .i64 1, .bool false] :: H) 56 [encStrs e.cons, .int .i64 1, .int .i64 1, .func 164 [] [.ptr 2 0]] = some (.ret (.bool ((decide ((1 : Int) ≤ (e.cons.length : Int)) && decide ((e.cons.length : Int) ≤ 1) && !e.cons.any fun s => !conB made s))) .same) := fun H =>
    callA_box1 (b := 2) _ rfl rfl rfl (all_h e.cons hs.cons.1 1 1 _ (wantsA (fName made) .nilf (fCon made) 1 1 1 1 false).cells rfl (fun s => conB made s) (fun x hx => expr1_c _ _ _ _ _ _ _ _ _ x _ (con_c made x (hs.cons.2 x hx)) ⟨rfl, rfl⟩)) rfl
  unfold fieldA at e3
  rw [C_fn rfl Go.Proofs.Tryz.func151 rfl (by kernel_rfl) (m := 107) rfl]; simp only [sims, core, pe, Nat.reduceAdd, Int.reduceBEq, Int.reduceBNe, Int.reduceLT, Int.reduceLE, Go.Proofs.Tryz.f151, fx_151, fieldA, hop, hk, bne, e1 _, e2 _, e3]
  cases h1 : nameB made e.name
  · simp only [sims, core, pe, Nat.reduceAdd, Int.reduceBEq, Int.reduceBNe, Int.reduceLT, Int.reduceLE, fx_151, hop, hk, bne, e1 _, e2 _, e3, h1]
  cases h2 : (e.n == 0)
  · simp only [sims, core, pe, Nat.reduceAdd, Int.reduceBEq, Int.reduceBNe, Int.reduceLT, Int.reduceLE, fx_151, hop, hk, bne, e1 _, e2 _, e3, h1, h2]
  cases h3 : (decide ((1 : Int) ≤ (e.cons.length : Int)) && decide ((e.cons.length : Int) ≤ 1) && !e.cons.any fun s => !conB made s)
  · simp only [sims, core, pe, Nat.reduceAdd, Int.reduceBEq, Int.reduceBNe, Int.reduceLT, Int.reduceLE, fx_151, hop, hk, bne, e1 _, e2 _, e3, h1, h2, h3]
  cases h4 : decide ((e.kids.length : Int) < 1)
  rotate_left
  · simp only [sims, core, pe, Nat.reduceAdd, Int.reduceBEq, Int.reduceBNe, Int.reduceLT, Int.reduceLE, fx_151, hop, hk, bne, e1 _, e2 _, e3, h1, h2, h3, h4]
  cases h5 : decide ((1 : Int) < (e.kids.length : Int))
  rotate_left
  · simp only [sims, core, pe, Nat.reduceAdd, Int.reduceBEq, Int.reduceBNe, Int.reduceLT, Int.reduceLE, fx_151, hop, hk, bne, e1 _, e2 _, e3, h1, h2, h3, h4, h5]
  simp only [sims, core, pe, Nat.reduceAdd, Int.reduceBEq, Int.reduceBNe, Int.reduceLT, Int.reduceLE, fx_151, hop, hk, bne, e1 _, e2 _, e3, h1, h2, h3, h4, h5]
theorem expr_12 (made : Bool) (e : PExpr) (hop : e.op = 12) (hs : e.Small) (_hr : i64ok e.n)
    (hk : ∀ H, callA C (.box [.bool made] :: H) 165 [.slice (e.kids.map PExpr.cells) .free, .func 166 [] [.ptr 0 0]] = some (.ret (.bool (e.kids.any fun x => !exprB made x)) .same)) :
    C 151 [fieldA made, .agg e.cells] [] = some (.ret (.bool (exprB made e)) .same) := by
  have hw : exprB made e = (nameB made e.name && (e.n == 0) && (decide ((1 : Int) ≤ (e.cons.length : Int)) && decide ((e.cons.length : Int) ≤ 8) && !e.cons.any fun s => !conB made s) && !decide ((e.kids.length : Int) < 1) && !decide ((8 : Int) < (e.kids.length : Int)) && !(true && !((e.cons.length : Int) == (e.kids.length : Int))) && !(false && !first14 e.kids) && !(e.kids.any fun k => !exprB made k)) := by
    rw [exprB_eq, hop]; rfl
  rw [hw]; clear hw
  have e1 := of_12 made
  unfold OfR fieldA at e1
  have e2 := name_c made e.name hs.name
  unfold fieldA at e2
  have e3 : ∀ H, callA C (.box [.bool made] :: .box e.cells :: .box [(fName made), .nilf, (fCon made), .int .i64 1, .int .i64 8, .int .i64 1, .int .i64 8, .bool true] :: H) 56 [encStrs e.cons, .int .i64 1, .int .i64 8, .func 164 [] [.ptr 2 0]] = some (.ret (.bool ((decide ((1 : Int) ≤ (e.cons.length : Int)) && decide ((e.cons.length : Int) ≤ 8) && !e.cons.any fun s => !conB made s))) .same) := fun H =>
    callA_box1 (b := 2) _ rfl rfl rfl (all_h e.cons hs.cons.1 1 8 _ (wantsA (fName made) .nilf (fCon made) 1 8 1 8 true).cells rfl (fun s => conB made s) (fun x hx => expr1_c _ _ _ _ _ _ _ _ _ x _ (con_c made x (hs.cons.2 x hx)) ⟨rfl, rfl⟩)) rfl
  unfold fieldA at e3
  rw [C_fn rfl Go.Proofs.Tryz.func151 rfl (by kernel_rfl) (m := 107) rfl]; simp only [sims, core, pe, Nat.reduceAdd, Int.reduceBEq, Int.reduceBNe, Int.reduceLT, Int.reduceLE, Go.Proofs.Tryz.f151, fx_151, fieldA, hop, hk, bne, e1 _, e2 _, e3]
  cases h1 : nameB made e.name
  · simp only [sims, core, pe, Nat.reduceAdd, Int.reduceBEq, Int.reduceBNe, Int.reduceLT, Int.reduceLE, fx_151, hop, hk, bne, e1 _, e2 _, e3, h1]
  cases h2 : (e.n == 0)
  · simp only [sims, core, pe, Nat.reduceAdd, Int.reduceBEq, Int.reduceBNe, Int.reduceLT, Int.reduceLE, fx_151, hop, hk, bne, e1 _, e2 _, e3, h1, h2]
  cases h3 : (decide ((1 : Int) ≤ (e.cons.length : Int)) && decide ((e.cons.length : Int) ≤ 8) && !e.cons.any fun s => !conB made s)
  · simp only [sims, core, pe, Nat.reduceAdd, Int.reduceBEq, Int.reduceBNe, Int.reduceLT, Int.reduceLE, fx_151, hop, hk, bne, e1 _, e2 _, e3, h1, h2, h3]
  cases h4 : decide ((e.kids.length : Int) < 1)
  rotate_left
  · simp only [sims, core, pe, Nat.reduceAdd, Int.reduceBEq, Int.reduceBNe, Int.reduceLT, Int.reduceLE, fx_151, hop, hk, bne, e1 _, e2 _, e3, h1, h2, h3, h4]
  cases h5 : decide ((8 : Int) < (e.kids.length : Int))
  rotate_left
  · simp only [sims, core, pe, Nat.reduceAdd, Int.reduceBEq, Int.reduceBNe, Int.reduceLT, Int.reduceLE, fx_151, hop, hk, bne, e1 _, e2 _, e3, h1, h2, h3, h4, h5]
  cases h6 : ((e.cons.length : Int) == (e.kids.length : Int))
  · simp only [sims, core, pe, Nat.reduceAdd, Int.reduceBEq, Int.reduceBNe, Int.reduceLT, Int.reduceLE, fx_151, hop, hk, bne, e1 _, e2 _, e3, h1, h2, h3, h4, h5, h6]
  simp only [sims, core, pe, Nat.reduceAdd, Int.reduceBEq, Int.reduceBNe, Int.reduceLT, Int.reduceLE, fx_151, hop, hk, bne, e1 _, e2 _, e3, h1, h2, h3, h4, h5, h6]
theorem expr_13 (made : Bool) (e : PExpr) (hop : e.op = 13) (hs : e.Small) (_hr : i64ok e.n)
    (hk : ∀ H, callA C (.box [.bool made] :: H) 165 [.slice (e.kids.map PExpr.cells) .free, .func 166 [] [.ptr 0 0]] = some (.ret (.bool (e.kids.any fun x => !exprB made x)) .same)) :
    C 151 [fieldA made, .agg e.cells] [] = some (.ret (.bool (exprB made e)) .same) := by
  have hw : exprB made e = (nameB made e.name && (e.n == 0) && (decide ((1 : Int) ≤ (e.cons.length : Int)) && decide ((e.cons.length : Int) ≤ 8) && !e.cons.any fun s => !conB made s) && !decide ((e.kids.length : Int) < 1) && !decide ((8 : Int) < (e.kids.length : Int)) && !(true && !((e.cons.length : Int) == (e.kids.length : Int))) && !(false && !first14 e.kids) && !(e.kids.any fun k => !exprB made k)) := by
    rw [exprB_eq, hop]; rfl
  rw [hw]; clear hw
  have e1 := of_13 made
  unfold OfR fieldA at e1
  have e2 := name_c made e.name hs.name
  unfold fieldA at e2
  have e3 : ∀ H, callA C (.box [.bool made] :: .box e.cells :: .box [(fName made), .nilf, (fCon made), .int .i64 1, .int .i64 8, .int .i64 1, .int .i64 8, .bool true] :: H) 56 [encStrs e.cons, .int .i64 1, .int .i64 8, .func 164 [] [.ptr 2 0]] = some (.ret (.bool ((decide ((1 : Int) ≤ (e.cons.length : Int)) && decide ((e.cons.length : Int) ≤ 8) && !e.cons.any fun s => !conB made s))) .same) := fun H =>
    callA_box1 (b := 2) _ rfl rfl rfl (all_h e.cons hs.cons.1 1 8 _ (wantsA (fName made) .nilf (fCon made) 1 8 1 8 true).cells rfl (fun s => conB made s) (fun x hx => expr1_c _ _ _ _ _ _ _ _ _ x _ (con_c made x (hs.cons.2 x hx)) ⟨rfl, rfl⟩)) rfl
  unfold fieldA at e3
  rw [C_fn rfl Go.Proofs.Tryz.func151 rfl (by kernel_rfl) (m := 107) rfl]; simp only [sims, core, pe, Nat.reduceAdd, Int.reduceBEq, Int.reduceBNe, Int.reduceLT, Int.reduceLE, Go.Proofs.Tryz.f151, fx_151, fieldA, hop, hk, bne, e1 _, e2 _, e3]
  cases h1 : nameB made e.name
  · simp only [sims, core, pe, Nat.reduceAdd, Int.reduceBEq, Int.reduceBNe, Int.reduceLT, Int.reduceLE, fx_151, hop, hk, bne, e1 _, e2 _, e3, h1]
  cases h2 : (e.n == 0)
  · simp only [sims, core, pe, Nat.reduceAdd, Int.reduceBEq, Int.reduceBNe, Int.reduceLT, Int.reduceLE, fx_151, hop, hk, bne, e1 _, e2 _, e3, h1, h2]
  cases h3 : (decide ((1 : Int) ≤ (e.cons.length : Int)) && decide ((e.cons.length : Int) ≤ 8) && !e.cons.any fun s => !conB made s)
  · simp only [sims, core, pe, Nat.reduceAdd, Int.reduceBEq, Int.reduceBNe, Int.reduceLT, Int.reduceLE, fx_151, hop, hk, bne, e1 _, e2 _, e3, h1, h2, h3]
  cases h4 : decide ((e.kids.length : Int) < 1)
  rotate_left
  · simp only [sims, core, pe, Nat.reduceAdd, Int.reduceBEq, Int.reduceBNe, Int.reduceLT, Int.reduceLE, fx_151, hop, hk, bne, e1 _, e2 _, e3, h1, h2, h3, h4]
  cases h5 : decide ((8 : Int) < (e.kids.length : Int))
  rotate_left
  · simp only [sims, core, pe, Nat.reduceAdd, Int.reduceBEq, Int.reduceBNe, Int.reduceLT, Int.reduceLE, fx_151, hop, hk, bne, e1 _, e2 _, e3, h1, h2, h3, h4, h5]
  cases h6 : ((e.cons.length : Int) == (e.kids.length : Int))
  · simp only [sims, core, pe, Nat.reduceAdd, Int.reduceBEq, Int.reduceBNe, Int.reduceLT, Int.reduceLE, fx_151, hop, hk, bne, e1 _, e2 _, e3, h1, h2, h3, h4, h5, h6]
  simp only [sims, core, pe, Nat.reduceAdd, Int.reduceBEq, Int.reduceBNe, Int.reduceLT, Int.reduceLE, fx_151, hop, hk, bne, e1 _, e2 _, e3, h1, h2, h3, h4, h5, h6]
theorem expr_14 (made : Bool) (e : PExpr) (hop : e.op = 14) (hs : e.Small) (_hr : i64ok e.n)
    (hk : ∀ H, callA C (.box [.bool made] :: H) 165 [.slice (e.kids.map PExpr.cells) .free, .func 166 [] [.ptr 0 0]] = some (.ret (.bool (e.kids.any fun x => !exprB made x)) .same)) :
    C 151 [fieldA made, .agg e.cells] [] = some (.ret (.bool (exprB made e)) .same) := by
  have hw : exprB made e = (nameB made e.name && (e.n == 0) && (decide ((0 : Int) ≤ (e.cons.length : Int)) && decide ((e.cons.length : Int) ≤ 6) && !e.cons.any fun s => !nameB made s) && !decide ((e.kids.length : Int) < 1) && !decide ((6 : Int) < (e.kids.length : Int)) && !(false && !((e.cons.length : Int) == (e.kids.length : Int))) && !(false && !first14 e.kids) && !(e.kids.any fun k => !exprB made k)) := by
    rw [exprB_eq, hop]; rfl
  rw [hw]; clear hw
  have e1 := of_14 made
  unfold OfR fieldA at e1
  have e2 := name_c made e.name hs.name
  unfold fieldA at e2
  have e3 : ∀ H, callA C (.box [.bool made] :: .box e.cells :: .box [(fName made), .nilf, (fName made), .int .i64 0, .int .i64 6, .int .i64 1, .int .i64 6, .bool false] :: H) 56 [encStrs e.cons, .int .i64 0, .int .i64 6, .func 164 [] [.ptr 2 0]] = some (.ret (.bool ((decide ((e.cons.length : Int) ≤ 6) && !e.cons.any fun s => !nameB made s))) .same) := fun H =>
    zero_and e.cons.length _ _ ▸ callA_box1 (b := 2) _ rfl rfl rfl (all_h e.cons hs.cons.1 0 6 _ (wantsA (fName made) .nilf (fName made) 0 6 1 6 false).cells rfl (fun s => nameB made s) (fun x hx => expr1_c _ _ _ _ _ _ _ _ _ x _ (name_c made x (hs.cons.2 x hx)) ⟨rfl, rfl⟩)) rfl
  unfold fieldA at e3
  rw [zero_and]
  rw [C_fn rfl Go.Proofs.Tryz.func151 rfl (by kernel_rfl) (m := 107) rfl]; simp only [sims, core, pe, Nat.reduceAdd, Int.reduceBEq, Int.reduceBNe, Int.reduceLT, Int.reduceLE, Go.Proofs.Tryz.f151, fx_151, fieldA, hop, hk, bne, e1 _, e2 _, e3]
  cases h1 : nameB made e.name
  · simp only [sims, core, pe, Nat.reduceAdd, Int.reduceBEq, Int.reduceBNe, Int.reduceLT, Int.reduceLE, fx_151, hop, hk, bne, e1 _, e2 _, e3, h1]
  cases h2 : (e.n == 0)
  · simp only [sims, core, pe, Nat.reduceAdd, Int.reduceBEq, Int.reduceBNe, Int.reduceLT, Int.reduceLE, fx_151, hop, hk, bne, e1 _, e2 _, e3, h1, h2]
  cases h3 : (decide ((e.cons.length : Int) ≤ 6) && !e.cons.any fun s => !nameB made s)
  · simp only [sims, core, pe, Nat.reduceAdd, Int.reduceBEq, Int.reduceBNe, Int.reduceLT, Int.reduceLE, fx_151, hop, hk, bne, e1 _, e2 _, e3, h1, h2, h3]
  cases h4 : decide ((e.kids.length : Int) < 1)
  rotate_left
  · simp only [sims, core, pe, Nat.reduceAdd, Int.reduceBEq, Int.reduceBNe, Int.reduceLT, Int.reduceLE, fx_151, hop, hk, bne, e1 _, e2 _, e3, h1, h2, h3, h4]
  cases h5 : decide ((6 : Int) < (e.kids.length : Int))
  rotate_left
  · simp only [sims, core, pe, Nat.reduceAdd, Int.reduceBEq, Int.reduceBNe, Int.reduceLT, Int.reduceLE, fx_151, hop, hk, bne, e1 _, e2 _, e3, h1, h2, h3, h4, h5]
  simp only [sims, core, pe, Nat.reduceAdd, Int.reduceBEq, Int.reduceBNe, Int.reduceLT, Int.reduceLE, fx_151, hop, hk, bne, e1 _, e2 _, e3, h1, h2, h3, h4, h5]
theorem expr_15 (made : Bool) (e : PExpr) (hop : e.op = 15) (hs : e.Small) (_hr : i64ok e.n)
    (hk : ∀ H, callA C (.box [.bool made] :: H) 165 [.slice (e.kids.map PExpr.cells) .free, .func 166 [] [.ptr 0 0]] = some (.ret (.bool (e.kids.any fun x => !exprB made x)) .same)) :
    C 151 [fieldA made, .agg e.cells] [] = some (.ret (.bool (exprB made e)) .same) := by
  have hw : exprB made e = ((e.name == []) && (e.n == 0) && (decide ((0 : Int) ≤ (e.cons.length : Int)) && decide ((e.cons.length : Int) ≤ 0) && !e.cons.any fun _ => !false) && !decide ((e.kids.length : Int) < 2) && !decide ((2 : Int) < (e.kids.length : Int)) && !(false && !((e.cons.length : Int) == (e.kids.length : Int))) && !(true && !first14 e.kids) && !(e.kids.any fun k => !exprB made k)) := by
    rw [exprB_eq, hop]; rfl
  rw [hw]; clear hw
  have e1 := of_15 made
  unfold OfR fieldA at e1
  have e3 : ∀ H, callA C (.box [.bool made] :: .box e.cells :: .box [.nilf, .nilf, .nilf, .int .i64 0, .int .i64 0, .int .i64 2, .int .i64 2, .bool false] :: H) 56 [encStrs e.cons, .int .i64 0, .int .i64 0, .func 164 [] [.ptr 2 0]] = some (.ret (.bool (decide ((e.cons.length : Int) ≤ 0))) .same) := fun H =>
    none_eq e.cons ▸ callA_box1 (b := 2) _ rfl rfl rfl (all_zero e.cons hs.cons.1 _ (wantsA .nilf .nilf .nilf 0 0 2 2 false).cells rfl) rfl
  obtain ⟨kids, hkd⟩ : ∃ l, e.kids = l := ⟨_, rfl⟩
  rw [hkd] at hk ⊢
  have hg := e.get4
  rw [hkd] at hg
  rw [none_eq]
  rw [C_fn rfl Go.Proofs.Tryz.func151 rfl (by kernel_rfl) (m := 107) rfl]; simp only [sims, core, pe, Nat.reduceAdd, Int.reduceBEq, Int.reduceBNe, Int.reduceLT, Int.reduceLE, Go.Proofs.Tryz.f151, fx_151, fieldA, hop, hk, bne, e1 _, e3, hg]
  cases h1 : (e.name == [])
  · simp only [sims, core, pe, Nat.reduceAdd, Int.reduceBEq, Int.reduceBNe, Int.reduceLT, Int.reduceLE, fx_151, hop, hk, bne, e1 _, e3, hg, h1]
  cases h2 : (e.n == 0)
  · simp only [sims, core, pe, Nat.reduceAdd, Int.reduceBEq, Int.reduceBNe, Int.reduceLT, Int.reduceLE, fx_151, hop, hk, bne, e1 _, e3, hg, h1, h2]
  cases h3 : decide ((e.cons.length : Int) ≤ 0)
  · simp only [sims, core, pe, Nat.reduceAdd, Int.reduceBEq, Int.reduceBNe, Int.reduceLT, Int.reduceLE, fx_151, hop, hk, bne, e1 _, e3, hg, h1, h2, h3]
  cases h4 : decide ((kids.length : Int) < 2)
  rotate_left
  · simp only [sims, core, pe, Nat.reduceAdd, Int.reduceBEq, Int.reduceBNe, Int.reduceLT, Int.reduceLE, fx_151, hop, hk, bne, e1 _, e3, hg, h1, h2, h3, h4]
  cases h5 : decide ((2 : Int) < (kids.length : Int))
  rotate_left
  · simp only [sims, core, pe, Nat.reduceAdd, Int.reduceBEq, Int.reduceBNe, Int.reduceLT, Int.reduceLE, fx_151, hop, hk, bne, e1 _, e3, hg, h1, h2, h3, h4, h5]
  cases kids with
  | nil => simp at h4
  | cons k0 r =>
    simp only [List.length_cons] at h4 h5
    simp only [List.map_cons] at hg hk
    cases h6 : k0.op == 14
    · simp only [sims, core, pe, Nat.reduceAdd, Int.reduceBEq, Int.reduceBNe, Int.reduceLT, Int.reduceLE, fx_151, hop, hk, bne, e1 _, e3, hg, h1, h2, h3, h4, h5, h6, first14, bne]
    · simp only [sims, core, pe, Nat.reduceAdd, Int.reduceBEq, Int.reduceBNe, Int.reduceLT, Int.reduceLE, fx_151, hop, hk, bne, e1 _, e3, hg, h1, h2, h3, h4, h5, h6, first14, bne]
end Go.Ab
