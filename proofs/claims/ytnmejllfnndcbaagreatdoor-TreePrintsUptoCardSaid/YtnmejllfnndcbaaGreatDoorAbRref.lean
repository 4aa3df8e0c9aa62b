/- The reference: which names and expressions may be. -/
import Derived.Test.YtnmejllfnndcbaaGreatDoorAbRight
set_option linter.unusedSimpArgs false
set_option linter.unusedVariables false
namespace Go.Ab
open Go Go.Ab.Tab
set_option maxRecDepth 100000
set_option maxHeartbeats 4000000
set_option linter.unusedSimpArgs false
theorem u8_beq (c : UInt8) : (((c.toNat : Nat) : Int) == 95) = (c == 95) := by
  rw [Bool.eq_iff_iff]
  simp only [beq_iff_eq]
  constructor
  · intro h
    have h1 : c.toNat = 95 := by omega
    exact UInt8.toNat_inj.1 (by rw [h1]; rfl)
  · intro h; subst h; rfl
theorem gt1 (n : Nat) : decide ((1 : Int) < ((n + 1 + 1 : Nat) : Int)) = true := decide_eq_true (by omega)
theorem gt11 : decide ((1 : Int) < ((0 + 1 : Nat) : Int)) = false := by decide
theorem gt12 : decide ((1 : Int) < ((1 : Nat) : Int)) = false := by decide
theorem gt10 : decide ((1 : Int) < ((0 : Nat) : Int)) = false := by decide
theorem le1n (n : Nat) : ((1 : Int) ≤ ((n + 1 : Nat) : Int)) = True := eq_true (by omega)
theorem le1m (n : Nat) : ((1 : Int) ≤ ((n + 1 + 1 : Nat) : Int)) = True := eq_true (by omega)
theorem get_c0 (c : UInt8) (r : Str) : (c :: r)[0]? = some c := rfl
theorem rname_c (made : Bool) (s : Str) (hs : s.length ≤ lenTop) : Ret C 61 [.str s, .bool made] (.bool (nameB made s)) := by
  refine Ret.mk rfl rfl ?_
  have e1 := risName_c (bareB made s) (bareB_small made s hs)
  unfold nameB
  cases made with
  | false =>
    have e2 : bareB false s = s := by cases s <;> simp [bareB]
    rw [e2] at e1 ⊢
    rw [C_fn rfl Go.Proofs.Tryz.func61 rfl (by kernel_rfl) (m := 18) rfl]; simp only [sims, core, pe, Nat.reduceAdd, Int.reduceBEq, Int.reduceBNe, Int.reduceLT, Int.reduceLE, Go.Proofs.Tryz.f61, fx_61, e1 _]
  | true =>
    cases s with
    | nil =>
      simp only [bareB] at e1 ⊢
      rw [C_fn rfl Go.Proofs.Tryz.func61 rfl (by kernel_rfl) (m := 18) rfl]; simp only [sims, core, pe, Nat.reduceAdd, Int.reduceBEq, Int.reduceBNe, Int.reduceLT, Int.reduceLE, Go.Proofs.Tryz.f61, fx_61, gt10, e1 _]
    | cons c r =>
      cases r with
      | nil =>
        simp only [bareB, List.isEmpty_nil, Bool.not_true, Bool.and_false, Bool.false_eq_true, if_false] at e1 ⊢
        rw [C_fn rfl Go.Proofs.Tryz.func61 rfl (by kernel_rfl) (m := 18) rfl]; simp only [sims, core, pe, Nat.reduceAdd, Int.reduceBEq, Int.reduceBNe, Int.reduceLT, Int.reduceLE, Go.Proofs.Tryz.f61, fx_61, gt11, gt12, top1, e1 _]
      | cons d t =>
        simp only [bareB, List.isEmpty_cons, Bool.not_false, Bool.and_true, Bool.true_and] at e1 ⊢
        have hs' : t.length + 1 + 1 ≤ lenTop := hs
        rw [C_fn rfl Go.Proofs.Tryz.func61 rfl (by kernel_rfl) (m := 18) rfl]; simp only [sims, core, pe, Nat.reduceAdd, Int.reduceBEq, Int.reduceBNe, Int.reduceLT, Int.reduceLE, Go.Proofs.Tryz.f61, fx_61, gt1, hs', get_c0, u8_beq]
        cases hc : c == 95
        · simp only [hc, Bool.false_eq_true, if_false] at e1
          simp only [sims, core, pe, Nat.reduceAdd, Int.reduceBEq, Int.reduceBNe, Int.reduceLT, Int.reduceLE, fx_61, hc, e1 _]
        · simp only [hc, if_true] at e1
          simp only [sims, core, pe, Nat.reduceAdd, Int.reduceBEq, Int.reduceBNe, Int.reduceLT, Int.reduceLE, fx_61, hc, sl_lo, le1m, le1n, ge1, le1, e1 _]
theorem rcon_c (made : Bool) (s : Str) (hs : s.length ≤ lenTop) : Ret C 102 [.str s, .bool made] (.bool (conB made s)) := by
  refine Ret.mk rfl rfl ?_
  have e1 := risCon_c (bareB made s) (bareB_small made s hs)
  unfold conB
  cases made with
  | false =>
    have e2 : bareB false s = s := by cases s <;> simp [bareB]
    rw [e2] at e1 ⊢
    rw [C_fn rfl Go.Proofs.Tryz.func102 rfl (by kernel_rfl) (m := 18) rfl]; simp only [sims, core, pe, Nat.reduceAdd, Int.reduceBEq, Int.reduceBNe, Int.reduceLT, Int.reduceLE, Go.Proofs.Tryz.f102, fx_102, e1 _]
  | true =>
    cases s with
    | nil =>
      simp only [bareB] at e1 ⊢
      rw [C_fn rfl Go.Proofs.Tryz.func102 rfl (by kernel_rfl) (m := 18) rfl]; simp only [sims, core, pe, Nat.reduceAdd, Int.reduceBEq, Int.reduceBNe, Int.reduceLT, Int.reduceLE, Go.Proofs.Tryz.f102, fx_102, gt10, e1 _]
    | cons c r =>
      cases r with
      | nil =>
        simp only [bareB, List.isEmpty_nil, Bool.not_true, Bool.and_false, Bool.false_eq_true, if_false] at e1 ⊢
        rw [C_fn rfl Go.Proofs.Tryz.func102 rfl (by kernel_rfl) (m := 18) rfl]; simp only [sims, core, pe, Nat.reduceAdd, Int.reduceBEq, Int.reduceBNe, Int.reduceLT, Int.reduceLE, Go.Proofs.Tryz.f102, fx_102, gt11, gt12, top1, e1 _]
      | cons d t =>
        simp only [bareB, List.isEmpty_cons, Bool.not_false, Bool.and_true, Bool.true_and] at e1 ⊢
        have hs' : t.length + 1 + 1 ≤ lenTop := hs
        rw [C_fn rfl Go.Proofs.Tryz.func102 rfl (by kernel_rfl) (m := 18) rfl]; simp only [sims, core, pe, Nat.reduceAdd, Int.reduceBEq, Int.reduceBNe, Int.reduceLT, Int.reduceLE, Go.Proofs.Tryz.f102, fx_102, gt1, hs', get_c0, u8_beq]
        cases hc : c == 95
        · simp only [hc, Bool.false_eq_true, if_false] at e1
          simp only [sims, core, pe, Nat.reduceAdd, Int.reduceBEq, Int.reduceBNe, Int.reduceLT, Int.reduceLE, fx_102, hc, e1 _]
        · simp only [hc, if_true] at e1
          simp only [sims, core, pe, Nat.reduceAdd, Int.reduceBEq, Int.reduceBNe, Int.reduceLT, Int.reduceLE, fx_102, hc, sl_lo, le1m, le1n, ge1, le1, e1 _]
theorem rnames_c (made : Bool) (l : List Str) (hl0 : StrsSmall l) (least most : Int) : Ret C 63 [encStrs l, .int .i64 least, .int .i64 most, .bool made] (.bool (namesB made l least most)) := by
  refine Ret.mk rfl rfl ?_
  have hl1 := hl0.1
  have ce := fun (x : Str) hx => rname_c made x (hl0.2 x hx)
  have hsp : namesB made l least most = ((l.all fun x => nameB made x) && decide (least ≤ (l.length : Int)) && decide ((l.length : Int) ≤ most)) := by
    unfold namesB
    rw [List.any_eq_not_all_not]
    simp only [Bool.not_not]
    rw [Bool.and_comm, Bool.and_assoc]
  rw [hsp]
  rw [C_fn rfl Go.Proofs.Tryz.func63 rfl (by kernel_rfl) (m := 29) rfl]; simp only [sims, core, pe, Nat.reduceAdd, Int.reduceBEq, Int.reduceBNe, Int.reduceLT, Int.reduceLE, Go.Proofs.Tryz.f63, fx_63, encStrs]
  generalize hb : codeB PP cmp0 C lpC _ = f; generalize hl : lpC f _ = r
  obtain ⟨ex, s', rfl, h2⟩ := lpC_at (α := Nat) hl [8, 10, 11, 12, 13, 14, 15, 16, 17, 18, 19, 20, 21, 22] (fun i => [(9, .int .i64 i)]) (fun i => i ≤ l.length) (fun i => l.length - i) (fun i => (l.drop i).all fun x => nameB made x)
    (AllPostE 0 [8, 9, 10, 11, 12, 13, 14, 15, 16, 17, 18, 19, 20, 21, 22] [9, 10, 11, 12, 13, 14, 15, 16, 17, 18, 19, 20, 21, 22] 8) 0 (Nat.zero_le _) (by simp only [At, ats, Int.natCast_zero, List.drop_left, List.drop_length, List.append_nil]) (by
      intro i j H d hi
      clear hl; subst hb
      by_cases hlt : i < l.length
      · have e1 : ((i : Int) < (l.length : Int)) := by omega
        have e3 : (l.map (fun s => [AVal.str s]))[i]? = some ((fun s => [AVal.str s]) l[i]) := by simp [hlt]
        have hm := List.getElem_mem hlt
        have c1 := ce l[i] hm
        simp only [sims, core, pe, Nat.reduceAdd, Int.reduceBEq, Int.reduceBNe, Int.reduceLT, Int.reduceLE, fx_63, ty, e1, e3, c1 _, encStrs]
        cases hc0 : nameB made l[i]
        · simp only [sims, core, pe, Nat.reduceAdd, Int.reduceBEq, Int.reduceBNe, Int.reduceLT, Int.reduceLE, fx_63, ty, e1, e3, c1 _, encStrs, hc0]
          exact .inr ⟨_, _, rfl, by simp, .inr ⟨by simp only [List.drop_eq_getElem_cons hlt, List.all_cons, hc0, Bool.false_and, Bool.and_false], rfl, by simp only [At, ats, Int.natCast_zero, List.drop_left, List.drop_length, List.append_nil]⟩⟩
        · simp only [sims, core, pe, Nat.reduceAdd, Int.reduceBEq, Int.reduceBNe, Int.reduceLT, Int.reduceLE, fx_63, ty, e1, e3, c1 _, encStrs, hc0, wrap_nat (show i ≤ lenTop by omega)]
          exact .inl ⟨i + 1, _, rfl, hlt, by simp only [At, ats, Int.natCast_zero, List.drop_left, List.drop_length, List.append_nil], by simp only []; omega, by simp only [List.drop_eq_getElem_cons hlt, List.all_cons, hc0, Bool.true_and]⟩
      · have e1 : ¬ ((i : Int) < (l.length : Int)) := by omega
        simp only [sims, core, pe, Nat.reduceAdd, Int.reduceBEq, Int.reduceBNe, Int.reduceLT, Int.reduceLE, fx_63, e1, encStrs]
        exact .inr ⟨_, _, rfl, by simp, .inl ⟨by simp only []; rw [List.drop_eq_nil_of_le (by omega)]; rfl, rfl, by simp only [At, ats, Int.natCast_zero, List.drop_left, List.drop_length, List.append_nil]⟩⟩)
  rw [List.drop_zero] at h2
  rcases h2 with ⟨hr1, rfl, h2⟩ | ⟨hr1, rfl, h2⟩
  · obtain ⟨j, H, d, rfl⟩ := h2.elim
    clear hl
    simp only [sims, core, pe, Nat.reduceAdd, Int.reduceBEq, Int.reduceBNe, Int.reduceLT, Int.reduceLE, fx_63, hr1]
    cases h1 : decide (least ≤ (l.length : Int))
    · simp only [sims, core, pe, Nat.reduceAdd, Int.reduceBEq, Int.reduceBNe, Int.reduceLT, Int.reduceLE, fx_63, h1]
    · simp only [sims, core, pe, Nat.reduceAdd, Int.reduceBEq, Int.reduceBNe, Int.reduceLT, Int.reduceLE, fx_63, h1]
  · obtain ⟨j, H, d, rfl⟩ := h2.elim
    clear hl
    simp only [sims, core, pe, Nat.reduceAdd, Int.reduceBEq, Int.reduceBNe, Int.reduceLT, Int.reduceLE, fx_63, hr1]
theorem rcons_c (made : Bool) (l : List Str) (hl0 : StrsSmall l) (least most : Int) : Ret C 62 [encStrs l, .int .i64 least, .int .i64 most, .bool made] (.bool (consB made l least most)) := by
  refine Ret.mk rfl rfl ?_
  have hl1 := hl0.1
  have ce := fun (x : Str) hx => rcon_c made x (hl0.2 x hx)
  have hsp : consB made l least most = ((l.all fun x => conB made x) && decide (least ≤ (l.length : Int)) && decide ((l.length : Int) ≤ most)) := by
    unfold consB
    rw [List.any_eq_not_all_not]
    simp only [Bool.not_not]
    rw [Bool.and_comm, Bool.and_assoc]
  rw [hsp]
  rw [C_fn rfl Go.Proofs.Tryz.func62 rfl (by kernel_rfl) (m := 29) rfl]; simp only [sims, core, pe, Nat.reduceAdd, Int.reduceBEq, Int.reduceBNe, Int.reduceLT, Int.reduceLE, Go.Proofs.Tryz.f62, fx_62, encStrs]
  generalize hb : codeB PP cmp0 C lpC _ = f; generalize hl : lpC f _ = r
  obtain ⟨ex, s', rfl, h2⟩ := lpC_at (α := Nat) hl [8, 10, 11, 12, 13, 14, 15, 16, 17, 18, 19, 20, 21, 22] (fun i => [(9, .int .i64 i)]) (fun i => i ≤ l.length) (fun i => l.length - i) (fun i => (l.drop i).all fun x => conB made x)
    (AllPostE 0 [8, 9, 10, 11, 12, 13, 14, 15, 16, 17, 18, 19, 20, 21, 22] [9, 10, 11, 12, 13, 14, 15, 16, 17, 18, 19, 20, 21, 22] 8) 0 (Nat.zero_le _) (by simp only [At, ats, Int.natCast_zero, List.drop_left, List.drop_length, List.append_nil]) (by
      intro i j H d hi
      clear hl; subst hb
      by_cases hlt : i < l.length
      · have e1 : ((i : Int) < (l.length : Int)) := by omega
        have e3 : (l.map (fun s => [AVal.str s]))[i]? = some ((fun s => [AVal.str s]) l[i]) := by simp [hlt]
        have hm := List.getElem_mem hlt
        have c1 := ce l[i] hm
        simp only [sims, core, pe, Nat.reduceAdd, Int.reduceBEq, Int.reduceBNe, Int.reduceLT, Int.reduceLE, fx_62, ty, e1, e3, c1 _, encStrs]
        cases hc0 : conB made l[i]
        · simp only [sims, core, pe, Nat.reduceAdd, Int.reduceBEq, Int.reduceBNe, Int.reduceLT, Int.reduceLE, fx_62, ty, e1, e3, c1 _, encStrs, hc0]
          exact .inr ⟨_, _, rfl, by simp, .inr ⟨by simp only [List.drop_eq_getElem_cons hlt, List.all_cons, hc0, Bool.false_and, Bool.and_false], rfl, by simp only [At, ats, Int.natCast_zero, List.drop_left, List.drop_length, List.append_nil]⟩⟩
        · simp only [sims, core, pe, Nat.reduceAdd, Int.reduceBEq, Int.reduceBNe, Int.reduceLT, Int.reduceLE, fx_62, ty, e1, e3, c1 _, encStrs, hc0, wrap_nat (show i ≤ lenTop by omega)]
          exact .inl ⟨i + 1, _, rfl, hlt, by simp only [At, ats, Int.natCast_zero, List.drop_left, List.drop_length, List.append_nil], by simp only []; omega, by simp only [List.drop_eq_getElem_cons hlt, List.all_cons, hc0, Bool.true_and]⟩
      · have e1 : ¬ ((i : Int) < (l.length : Int)) := by omega
        simp only [sims, core, pe, Nat.reduceAdd, Int.reduceBEq, Int.reduceBNe, Int.reduceLT, Int.reduceLE, fx_62, e1, encStrs]
        exact .inr ⟨_, _, rfl, by simp, .inl ⟨by simp only []; rw [List.drop_eq_nil_of_le (by omega)]; rfl, rfl, by simp only [At, ats, Int.natCast_zero, List.drop_left, List.drop_length, List.append_nil]⟩⟩)
  rw [List.drop_zero] at h2
  rcases h2 with ⟨hr1, rfl, h2⟩ | ⟨hr1, rfl, h2⟩
  · obtain ⟨j, H, d, rfl⟩ := h2.elim
    clear hl
    simp only [sims, core, pe, Nat.reduceAdd, Int.reduceBEq, Int.reduceBNe, Int.reduceLT, Int.reduceLE, fx_62, hr1]
    cases h1 : decide (least ≤ (l.length : Int))
    · simp only [sims, core, pe, Nat.reduceAdd, Int.reduceBEq, Int.reduceBNe, Int.reduceLT, Int.reduceLE, fx_62, h1]
    · simp only [sims, core, pe, Nat.reduceAdd, Int.reduceBEq, Int.reduceBNe, Int.reduceLT, Int.reduceLE, fx_62, h1]
  · obtain ⟨j, H, d, rfl⟩ := h2.elim
    clear hl
    simp only [sims, core, pe, Nat.reduceAdd, Int.reduceBEq, Int.reduceBNe, Int.reduceLT, Int.reduceLE, fx_62, hr1]
def shapeB (made : Bool) (e : PExpr) : Bool := match wnt made e.op with
  | none => false
  | some w => w.b1 e.name && w.b2 e.n && decide (w.least ≤ (e.cons.length : Int)) && decide ((e.cons.length : Int) ≤ w.most) && decide (w.kl ≤ (e.kids.length : Int)) && decide ((e.kids.length : Int) ≤ w.km)
theorem has_full (l : List Str) (s : Str) (hl : l.length ≤ lenTop) : Ret C 132 [.slice (l.map fun s => [.str s]) .full, .str s] (.bool (l.any (· == s))) := by
  refine Ret.mk rfl rfl ?_
  rw [C_fn rfl Go.Proofs.Tryz.func132 rfl (by kernel_rfl) (m := 16) rfl]; simp only [sims, core, pe, Nat.reduceAdd, Int.reduceBEq, Int.reduceBNe, Int.reduceLT, Int.reduceLE, Go.Proofs.Tryz.f132, fx_132, encStrs]
  generalize hb : codeB PP cmp0 C lpC _ = f; generalize hl0 : lpC f _ = r
  obtain ⟨ex, s', rfl, h2⟩ := lpC_at (α := Nat) hl0 [4, 6, 7, 8, 9, 10, 11, 12, 13, 14, 15, 16, 17] (fun i => [(5, .int .i64 i)]) (fun i => i ≤ l.length) (fun i => l.length - i) (fun i => (l.drop i).any (· == s))
    (fun ts H r ex st => (r = false ∧ ex = .exit 0 ∧ At [4, 5, 6, 7, 8, 9, 10, 11, 12, 13, 14, 15, 16, 17] ts H [] st) ∨ (r = true ∧ ex = .ret ∧ At [5, 6, 7, 8, 9, 10, 11, 12, 13, 14, 15, 16, 17] ts H [(4, .bool true)] st)) 0 (Nat.zero_le _) (by simp only [At, ats, Int.natCast_zero]) (by
      intro i j H d hi
      clear hl0; subst hb
      by_cases hlt : i < l.length
      · have e1 : ((i : Int) < (l.length : Int)) := by omega
        have e3 := strs_get l i hlt
        simp only [sims, core, pe, Nat.reduceAdd, Int.reduceBEq, Int.reduceBNe, Int.reduceLT, Int.reduceLE, fx_132, e1, e3]
        cases hc : l[i] == s
        · simp only [sims, core, pe, Nat.reduceAdd, Int.reduceBEq, Int.reduceBNe, Int.reduceLT, Int.reduceLE, wrap_nat (show i ≤ lenTop by omega)]
          exact .inl ⟨i + 1, _, rfl, hlt, by simp only [At, ats, Int.natCast_zero], by simp only []; omega, by simp only [List.drop_eq_getElem_cons hlt, List.any_cons, hc, Bool.false_or]⟩
        · simp only [sims, core, pe, Nat.reduceAdd, Int.reduceBEq, Int.reduceBNe, Int.reduceLT, Int.reduceLE]
          exact .inr ⟨_, _, rfl, by simp, .inr ⟨by simp only [List.drop_eq_getElem_cons hlt, List.any_cons, hc, Bool.true_or], rfl, by simp only [At, ats, Int.natCast_zero]⟩⟩
      · have e1 : ¬ ((i : Int) < (l.length : Int)) := by omega
        simp only [sims, core, pe, Nat.reduceAdd, Int.reduceBEq, Int.reduceBNe, Int.reduceLT, Int.reduceLE, fx_132, e1]
        exact .inr ⟨_, _, rfl, by simp, .inl ⟨by simp only []; rw [List.drop_eq_nil_of_le (by omega)]; rfl, rfl, by simp only [At, ats, Int.natCast_zero]⟩⟩)
  rw [List.drop_zero] at h2
  rcases h2 with ⟨hr, rfl, h2⟩ | ⟨hr, rfl, h2⟩
  · obtain ⟨j, H, d, rfl⟩ := h2.elim
    clear hl0
    simp only [sims, core, pe, Nat.reduceAdd, Int.reduceBEq, Int.reduceBNe, Int.reduceLT, Int.reduceLE, hr]
  · obtain ⟨j, H, d, rfl⟩ := h2.elim
    clear hl0
    simp only [sims, core, pe, Nat.reduceAdd, Int.reduceBEq, Int.reduceBNe, Int.reduceLT, Int.reduceLE, hr]
theorem any_beq_comm (l : List Str) (s : Str) : l.any (· == s) = l.any (s == ·) := by
  congr 1; funext x; rw [Bool.eq_iff_iff]; simp only [beq_iff_eq]; exact eq_comm
theorem rshape_1 (made : Bool) (e : PExpr) (hop : e.op = 1) (hs : e.Small) : C 135 [.agg e.cells, .bool made] [] = some (.ret (.bool (shapeB made e)) .same) := by
  have hw : shapeB made e = ((e.name == []) && decide (0 ≤ e.n) && decide ((e.cons.length : Int) ≤ 0) && decide ((e.kids.length : Int) ≤ 0)) := by
    have h0 : shapeB made e = ((e.name == []) && decide (0 ≤ e.n) && decide ((0 : Int) ≤ (e.cons.length : Int)) && decide ((e.cons.length : Int) ≤ 0) && decide ((0 : Int) ≤ (e.kids.length : Int)) && decide ((e.kids.length : Int) ≤ 0)) := by
      unfold shapeB; rw [hop]; rfl
    exact h0.trans (by first | rfl | simp only [core])
  rw [hw]; clear hw
  rw [C_fn rfl Go.Proofs.Tryz.func135 rfl (by kernel_rfl) (m := 181) rfl]; simp only [sims, core, pe, Nat.reduceAdd, Int.reduceBEq, Int.reduceBNe, Int.reduceLT, Int.reduceLE, Go.Proofs.Tryz.f135, fx_135, hop]
  cases h0 : (e.name == [])
  · simp only [sims, core, pe, Nat.reduceAdd, Int.reduceBEq, Int.reduceBNe, Int.reduceLT, Int.reduceLE, fx_135, hop, h0]
  simp only [sims, core, pe, Nat.reduceAdd, Int.reduceBEq, Int.reduceBNe, Int.reduceLT, Int.reduceLE, fx_135, hop, h0]
  cases h1 : decide (0 ≤ e.n)
  · simp only [sims, core, pe, Nat.reduceAdd, Int.reduceBEq, Int.reduceBNe, Int.reduceLT, Int.reduceLE, fx_135, hop, h0, h1]
  simp only [sims, core, pe, Nat.reduceAdd, Int.reduceBEq, Int.reduceBNe, Int.reduceLT, Int.reduceLE, fx_135, hop, h0, h1]
  cases h2 : decide ((e.cons.length : Int) ≤ 0)
  · simp only [sims, core, pe, Nat.reduceAdd, Int.reduceBEq, Int.reduceBNe, Int.reduceLT, Int.reduceLE, fx_135, hop, h0, h1, h2]
  simp only [sims, core, pe, Nat.reduceAdd, Int.reduceBEq, Int.reduceBNe, Int.reduceLT, Int.reduceLE, fx_135, hop, h0, h1, h2]
theorem rshape_2 (made : Bool) (e : PExpr) (hop : e.op = 2) (hs : e.Small) : C 135 [.agg e.cells, .bool made] [] = some (.ret (.bool (shapeB made e)) .same) := by
  have hw : shapeB made e = ((e.name == []) && (e.n == 0 || e.n == 1) && decide ((e.cons.length : Int) ≤ 0) && decide ((e.kids.length : Int) ≤ 0)) := by
    have h0 : shapeB made e = ((e.name == []) && (e.n == 0 || e.n == 1) && decide ((0 : Int) ≤ (e.cons.length : Int)) && decide ((e.cons.length : Int) ≤ 0) && decide ((0 : Int) ≤ (e.kids.length : Int)) && decide ((e.kids.length : Int) ≤ 0)) := by
      unfold shapeB; rw [hop]; rfl
    exact h0.trans (by first | rfl | simp only [core])
  rw [hw]; clear hw
  rw [C_fn rfl Go.Proofs.Tryz.func135 rfl (by kernel_rfl) (m := 181) rfl]; simp only [sims, core, pe, Nat.reduceAdd, Int.reduceBEq, Int.reduceBNe, Int.reduceLT, Int.reduceLE, Go.Proofs.Tryz.f135, fx_135, hop]
  cases hu1 : e.n == 0
  rotate_left
  · simp only [sims, core, pe, Nat.reduceAdd, Int.reduceBEq, Int.reduceBNe, Int.reduceLT, Int.reduceLE, fx_135, hop, hu1]
    cases h0 : (e.name == [])
    · simp only [sims, core, pe, Nat.reduceAdd, Int.reduceBEq, Int.reduceBNe, Int.reduceLT, Int.reduceLE, fx_135, hop, hu1, h0]
    simp only [sims, core, pe, Nat.reduceAdd, Int.reduceBEq, Int.reduceBNe, Int.reduceLT, Int.reduceLE, fx_135, hop, hu1, h0]
    cases h2 : decide ((e.cons.length : Int) ≤ 0)
    · simp only [sims, core, pe, Nat.reduceAdd, Int.reduceBEq, Int.reduceBNe, Int.reduceLT, Int.reduceLE, fx_135, hop, hu1, h0, h2]
    simp only [sims, core, pe, Nat.reduceAdd, Int.reduceBEq, Int.reduceBNe, Int.reduceLT, Int.reduceLE, fx_135, hop, hu1, h0, h2]
  simp only [sims, core, pe, Nat.reduceAdd, Int.reduceBEq, Int.reduceBNe, Int.reduceLT, Int.reduceLE, fx_135, hop, hu1]
  cases h0 : (e.name == [])
  · simp only [sims, core, pe, Nat.reduceAdd, Int.reduceBEq, Int.reduceBNe, Int.reduceLT, Int.reduceLE, fx_135, hop, hu1, h0]
  simp only [sims, core, pe, Nat.reduceAdd, Int.reduceBEq, Int.reduceBNe, Int.reduceLT, Int.reduceLE, fx_135, hop, hu1, h0]
  cases h1 : e.n == 1
  · simp only [sims, core, pe, Nat.reduceAdd, Int.reduceBEq, Int.reduceBNe, Int.reduceLT, Int.reduceLE, fx_135, hop, hu1, h0, h1]
  simp only [sims, core, pe, Nat.reduceAdd, Int.reduceBEq, Int.reduceBNe, Int.reduceLT, Int.reduceLE, fx_135, hop, hu1, h0, h1]
  cases h2 : decide ((e.cons.length : Int) ≤ 0)
  · simp only [sims, core, pe, Nat.reduceAdd, Int.reduceBEq, Int.reduceBNe, Int.reduceLT, Int.reduceLE, fx_135, hop, hu1, h0, h1, h2]
  simp only [sims, core, pe, Nat.reduceAdd, Int.reduceBEq, Int.reduceBNe, Int.reduceLT, Int.reduceLE, fx_135, hop, hu1, h0, h1, h2]
theorem rshape_3 (made : Bool) (e : PExpr) (hop : e.op = 3) (hs : e.Small) : C 135 [.agg e.cells, .bool made] [] = some (.ret (.bool (shapeB made e)) .same) := by
  have hw : shapeB made e = (conB made e.name && (e.n == 0) && decide ((e.cons.length : Int) ≤ 0) && decide ((e.kids.length : Int) ≤ 0)) := by
    have h0 : shapeB made e = (conB made e.name && (e.n == 0) && decide ((0 : Int) ≤ (e.cons.length : Int)) && decide ((e.cons.length : Int) ≤ 0) && decide ((0 : Int) ≤ (e.kids.length : Int)) && decide ((e.kids.length : Int) ≤ 0)) := by
      unfold shapeB; rw [hop]; rfl
    exact h0.trans (by first | rfl | simp only [core])
  rw [hw]; clear hw
  have e2 := rcon_c made e.name hs.name
  rw [C_fn rfl Go.Proofs.Tryz.func135 rfl (by kernel_rfl) (m := 181) rfl]; simp only [sims, core, pe, Nat.reduceAdd, Int.reduceBEq, Int.reduceBNe, Int.reduceLT, Int.reduceLE, Go.Proofs.Tryz.f135, fx_135, hop, e2 _]
  cases h0 : conB made e.name
  · simp only [sims, core, pe, Nat.reduceAdd, Int.reduceBEq, Int.reduceBNe, Int.reduceLT, Int.reduceLE, fx_135, hop, e2 _, h0]
  simp only [sims, core, pe, Nat.reduceAdd, Int.reduceBEq, Int.reduceBNe, Int.reduceLT, Int.reduceLE, fx_135, hop, e2 _, h0]
  cases h1 : (e.n == 0)
  · simp only [sims, core, pe, Nat.reduceAdd, Int.reduceBEq, Int.reduceBNe, Int.reduceLT, Int.reduceLE, fx_135, hop, e2 _, h0, h1]
  simp only [sims, core, pe, Nat.reduceAdd, Int.reduceBEq, Int.reduceBNe, Int.reduceLT, Int.reduceLE, fx_135, hop, e2 _, h0, h1]
  cases h2 : decide ((e.cons.length : Int) ≤ 0)
  · simp only [sims, core, pe, Nat.reduceAdd, Int.reduceBEq, Int.reduceBNe, Int.reduceLT, Int.reduceLE, fx_135, hop, e2 _, h0, h1, h2]
  simp only [sims, core, pe, Nat.reduceAdd, Int.reduceBEq, Int.reduceBNe, Int.reduceLT, Int.reduceLE, fx_135, hop, e2 _, h0, h1, h2]
theorem rshape_4 (made : Bool) (e : PExpr) (hop : e.op = 4) (hs : e.Small) : C 135 [.agg e.cells, .bool made] [] = some (.ret (.bool (shapeB made e)) .same) := by
  have hw : shapeB made e = (nameB made e.name && (e.n == 0) && decide ((e.cons.length : Int) ≤ 0) && decide ((e.kids.length : Int) ≤ 0)) := by
    have h0 : shapeB made e = (nameB made e.name && (e.n == 0) && decide ((0 : Int) ≤ (e.cons.length : Int)) && decide ((e.cons.length : Int) ≤ 0) && decide ((0 : Int) ≤ (e.kids.length : Int)) && decide ((e.kids.length : Int) ≤ 0)) := by
      unfold shapeB; rw [hop]; rfl
    exact h0.trans (by first | rfl | simp only [core])
  rw [hw]; clear hw
  have e2 := rname_c made e.name hs.name
  rw [C_fn rfl Go.Proofs.Tryz.func135 rfl (by kernel_rfl) (m := 181) rfl]; simp only [sims, core, pe, Nat.reduceAdd, Int.reduceBEq, Int.reduceBNe, Int.reduceLT, Int.reduceLE, Go.Proofs.Tryz.f135, fx_135, hop, e2 _]
  cases h0 : nameB made e.name
  · simp only [sims, core, pe, Nat.reduceAdd, Int.reduceBEq, Int.reduceBNe, Int.reduceLT, Int.reduceLE, fx_135, hop, e2 _, h0]
  simp only [sims, core, pe, Nat.reduceAdd, Int.reduceBEq, Int.reduceBNe, Int.reduceLT, Int.reduceLE, fx_135, hop, e2 _, h0]
  cases h1 : (e.n == 0)
  · simp only [sims, core, pe, Nat.reduceAdd, Int.reduceBEq, Int.reduceBNe, Int.reduceLT, Int.reduceLE, fx_135, hop, e2 _, h0, h1]
  simp only [sims, core, pe, Nat.reduceAdd, Int.reduceBEq, Int.reduceBNe, Int.reduceLT, Int.reduceLE, fx_135, hop, e2 _, h0, h1]
  cases h2 : decide ((e.cons.length : Int) ≤ 0)
  · simp only [sims, core, pe, Nat.reduceAdd, Int.reduceBEq, Int.reduceBNe, Int.reduceLT, Int.reduceLE, fx_135, hop, e2 _, h0, h1, h2]
  simp only [sims, core, pe, Nat.reduceAdd, Int.reduceBEq, Int.reduceBNe, Int.reduceLT, Int.reduceLE, fx_135, hop, e2 _, h0, h1, h2]
theorem rshape_5 (made : Bool) (e : PExpr) (hop : e.op = 5) (hs : e.Small) : C 135 [.agg e.cells, .bool made] [] = some (.ret (.bool (shapeB made e)) .same) := by
  have hw : shapeB made e = (unL.any (e.name == ·) && (e.n == 0) && decide ((e.cons.length : Int) ≤ 0) && decide ((1 : Int) ≤ (e.kids.length : Int)) && decide ((e.kids.length : Int) ≤ 1)) := by
    have h0 : shapeB made e = (unL.any (e.name == ·) && (e.n == 0) && decide ((0 : Int) ≤ (e.cons.length : Int)) && decide ((e.cons.length : Int) ≤ 0) && decide ((1 : Int) ≤ (e.kids.length : Int)) && decide ((e.kids.length : Int) ≤ 1)) := by
      unfold shapeB; rw [hop]; rfl
    exact h0.trans (by first | rfl | simp only [core])
  rw [hw]; clear hw
  rw [C_fn rfl Go.Proofs.Tryz.func135 rfl (by kernel_rfl) (m := 181) rfl]; simp only [sims, core, pe, Nat.reduceAdd, Int.reduceBEq, Int.reduceBNe, Int.reduceLT, Int.reduceLE, Go.Proofs.Tryz.f135, fx_135, hop]
  have hu : unL.any (e.name == ·) = ((e.name == [110, 111, 116]) || (e.name == [45])) := by simp [unL]
  rw [hu]
  cases hu1 : e.name == [110, 111, 116]
  rotate_left
  · simp only [sims, core, pe, Nat.reduceAdd, Int.reduceBEq, Int.reduceBNe, Int.reduceLT, Int.reduceLE, fx_135, hop, hu1]
    cases h1 : (e.n == 0)
    · simp only [sims, core, pe, Nat.reduceAdd, Int.reduceBEq, Int.reduceBNe, Int.reduceLT, Int.reduceLE, fx_135, hop, hu1, h1]
    simp only [sims, core, pe, Nat.reduceAdd, Int.reduceBEq, Int.reduceBNe, Int.reduceLT, Int.reduceLE, fx_135, hop, hu1, h1]
    cases h2 : decide ((e.cons.length : Int) ≤ 0)
    · simp only [sims, core, pe, Nat.reduceAdd, Int.reduceBEq, Int.reduceBNe, Int.reduceLT, Int.reduceLE, fx_135, hop, hu1, h1, h2]
    simp only [sims, core, pe, Nat.reduceAdd, Int.reduceBEq, Int.reduceBNe, Int.reduceLT, Int.reduceLE, fx_135, hop, hu1, h1, h2]
    cases h3 : decide ((1 : Int) ≤ (e.kids.length : Int))
    · simp only [sims, core, pe, Nat.reduceAdd, Int.reduceBEq, Int.reduceBNe, Int.reduceLT, Int.reduceLE, fx_135, hop, hu1, h1, h2, h3]
    simp only [sims, core, pe, Nat.reduceAdd, Int.reduceBEq, Int.reduceBNe, Int.reduceLT, Int.reduceLE, fx_135, hop, hu1, h1, h2, h3]
  simp only [sims, core, pe, Nat.reduceAdd, Int.reduceBEq, Int.reduceBNe, Int.reduceLT, Int.reduceLE, fx_135, hop, hu1]
  cases h0 : e.name == [45]
  · simp only [sims, core, pe, Nat.reduceAdd, Int.reduceBEq, Int.reduceBNe, Int.reduceLT, Int.reduceLE, fx_135, hop, hu1, h0]
  simp only [sims, core, pe, Nat.reduceAdd, Int.reduceBEq, Int.reduceBNe, Int.reduceLT, Int.reduceLE, fx_135, hop, hu1, h0]
  cases h1 : (e.n == 0)
  · simp only [sims, core, pe, Nat.reduceAdd, Int.reduceBEq, Int.reduceBNe, Int.reduceLT, Int.reduceLE, fx_135, hop, hu1, h0, h1]
  simp only [sims, core, pe, Nat.reduceAdd, Int.reduceBEq, Int.reduceBNe, Int.reduceLT, Int.reduceLE, fx_135, hop, hu1, h0, h1]
  cases h2 : decide ((e.cons.length : Int) ≤ 0)
  · simp only [sims, core, pe, Nat.reduceAdd, Int.reduceBEq, Int.reduceBNe, Int.reduceLT, Int.reduceLE, fx_135, hop, hu1, h0, h1, h2]
  simp only [sims, core, pe, Nat.reduceAdd, Int.reduceBEq, Int.reduceBNe, Int.reduceLT, Int.reduceLE, fx_135, hop, hu1, h0, h1, h2]
  cases h3 : decide ((1 : Int) ≤ (e.kids.length : Int))
  · simp only [sims, core, pe, Nat.reduceAdd, Int.reduceBEq, Int.reduceBNe, Int.reduceLT, Int.reduceLE, fx_135, hop, hu1, h0, h1, h2, h3]
  simp only [sims, core, pe, Nat.reduceAdd, Int.reduceBEq, Int.reduceBNe, Int.reduceLT, Int.reduceLE, fx_135, hop, hu1, h0, h1, h2, h3]
theorem rshape_6 (made : Bool) (e : PExpr) (hop : e.op = 6) (hs : e.Small) : C 135 [.agg e.cells, .bool made] [] = some (.ret (.bool (shapeB made e)) .same) := by
  have hw : shapeB made e = (binL.any (e.name == ·) && (e.n == 0) && decide ((e.cons.length : Int) ≤ 0) && decide ((2 : Int) ≤ (e.kids.length : Int)) && decide ((e.kids.length : Int) ≤ 2)) := by
    have h0 : shapeB made e = (binL.any (e.name == ·) && (e.n == 0) && decide ((0 : Int) ≤ (e.cons.length : Int)) && decide ((e.cons.length : Int) ≤ 0) && decide ((2 : Int) ≤ (e.kids.length : Int)) && decide ((e.kids.length : Int) ≤ 2)) := by
      unfold shapeB; rw [hop]; rfl
    exact h0.trans (by first | rfl | simp only [core])
  rw [hw]; clear hw
  have e2 := has_full binL e.name (by decide)
  rw [any_beq_comm] at e2
  generalize binL.any (fun x => e.name == x) = bB at e2 ⊢
  simp only [binL, List.map_cons, List.map_nil] at e2
  rw [C_fn rfl Go.Proofs.Tryz.func135 rfl (by kernel_rfl) (m := 181) rfl]; simp only [sims, core, pe, Nat.reduceAdd, Int.reduceBEq, Int.reduceBNe, Int.reduceLT, Int.reduceLE, Go.Proofs.Tryz.f135, fx_135, hop, e2 _]
  cases h0 : bB
  · simp only [sims, core, pe, Nat.reduceAdd, Int.reduceBEq, Int.reduceBNe, Int.reduceLT, Int.reduceLE, fx_135, hop, e2 _, h0]
  simp only [sims, core, pe, Nat.reduceAdd, Int.reduceBEq, Int.reduceBNe, Int.reduceLT, Int.reduceLE, fx_135, hop, e2 _, h0]
  cases h1 : (e.n == 0)
  · simp only [sims, core, pe, Nat.reduceAdd, Int.reduceBEq, Int.reduceBNe, Int.reduceLT, Int.reduceLE, fx_135, hop, e2 _, h0, h1]
  simp only [sims, core, pe, Nat.reduceAdd, Int.reduceBEq, Int.reduceBNe, Int.reduceLT, Int.reduceLE, fx_135, hop, e2 _, h0, h1]
  cases h2 : decide ((e.cons.length : Int) ≤ 0)
  · simp only [sims, core, pe, Nat.reduceAdd, Int.reduceBEq, Int.reduceBNe, Int.reduceLT, Int.reduceLE, fx_135, hop, e2 _, h0, h1, h2]
  simp only [sims, core, pe, Nat.reduceAdd, Int.reduceBEq, Int.reduceBNe, Int.reduceLT, Int.reduceLE, fx_135, hop, e2 _, h0, h1, h2]
  cases h3 : decide ((2 : Int) ≤ (e.kids.length : Int))
  · simp only [sims, core, pe, Nat.reduceAdd, Int.reduceBEq, Int.reduceBNe, Int.reduceLT, Int.reduceLE, fx_135, hop, e2 _, h0, h1, h2, h3]
  simp only [sims, core, pe, Nat.reduceAdd, Int.reduceBEq, Int.reduceBNe, Int.reduceLT, Int.reduceLE, fx_135, hop, e2 _, h0, h1, h2, h3]
theorem rshape_7 (made : Bool) (e : PExpr) (hop : e.op = 7) (hs : e.Small) : C 135 [.agg e.cells, .bool made] [] = some (.ret (.bool (shapeB made e)) .same) := by
  have hw : shapeB made e = ((e.name == []) && (e.n == 0) && decide ((e.cons.length : Int) ≤ 0) && decide ((3 : Int) ≤ (e.kids.length : Int)) && decide ((e.kids.length : Int) ≤ 3)) := by
    have h0 : shapeB made e = ((e.name == []) && (e.n == 0) && decide ((0 : Int) ≤ (e.cons.length : Int)) && decide ((e.cons.length : Int) ≤ 0) && decide ((3 : Int) ≤ (e.kids.length : Int)) && decide ((e.kids.length : Int) ≤ 3)) := by
      unfold shapeB; rw [hop]; rfl
    exact h0.trans (by first | rfl | simp only [core])
  rw [hw]; clear hw
  rw [C_fn rfl Go.Proofs.Tryz.func135 rfl (by kernel_rfl) (m := 181) rfl]; simp only [sims, core, pe, Nat.reduceAdd, Int.reduceBEq, Int.reduceBNe, Int.reduceLT, Int.reduceLE, Go.Proofs.Tryz.f135, fx_135, hop]
  cases h0 : (e.name == [])
  · simp only [sims, core, pe, Nat.reduceAdd, Int.reduceBEq, Int.reduceBNe, Int.reduceLT, Int.reduceLE, fx_135, hop, h0]
  simp only [sims, core, pe, Nat.reduceAdd, Int.reduceBEq, Int.reduceBNe, Int.reduceLT, Int.reduceLE, fx_135, hop, h0]
  cases h1 : (e.n == 0)
  · simp only [sims, core, pe, Nat.reduceAdd, Int.reduceBEq, Int.reduceBNe, Int.reduceLT, Int.reduceLE, fx_135, hop, h0, h1]
  simp only [sims, core, pe, Nat.reduceAdd, Int.reduceBEq, Int.reduceBNe, Int.reduceLT, Int.reduceLE, fx_135, hop, h0, h1]
  cases h2 : decide ((e.cons.length : Int) ≤ 0)
  · simp only [sims, core, pe, Nat.reduceAdd, Int.reduceBEq, Int.reduceBNe, Int.reduceLT, Int.reduceLE, fx_135, hop, h0, h1, h2]
  simp only [sims, core, pe, Nat.reduceAdd, Int.reduceBEq, Int.reduceBNe, Int.reduceLT, Int.reduceLE, fx_135, hop, h0, h1, h2]
  cases h3 : decide ((3 : Int) ≤ (e.kids.length : Int))
  · simp only [sims, core, pe, Nat.reduceAdd, Int.reduceBEq, Int.reduceBNe, Int.reduceLT, Int.reduceLE, fx_135, hop, h0, h1, h2, h3]
  simp only [sims, core, pe, Nat.reduceAdd, Int.reduceBEq, Int.reduceBNe, Int.reduceLT, Int.reduceLE, fx_135, hop, h0, h1, h2, h3]
theorem rshape_8 (made : Bool) (e : PExpr) (hop : e.op = 8) (hs : e.Small) : C 135 [.agg e.cells, .bool made] [] = some (.ret (.bool (shapeB made e)) .same) := by
  have hw : shapeB made e = ((e.name == []) && (e.n == 0) && decide ((e.cons.length : Int) ≤ 0) && decide ((2 : Int) ≤ (e.kids.length : Int)) && decide ((e.kids.length : Int) ≤ 2)) := by
    have h0 : shapeB made e = ((e.name == []) && (e.n == 0) && decide ((0 : Int) ≤ (e.cons.length : Int)) && decide ((e.cons.length : Int) ≤ 0) && decide ((2 : Int) ≤ (e.kids.length : Int)) && decide ((e.kids.length : Int) ≤ 2)) := by
      unfold shapeB; rw [hop]; rfl
    exact h0.trans (by first | rfl | simp only [core])
  rw [hw]; clear hw
  rw [C_fn rfl Go.Proofs.Tryz.func135 rfl (by kernel_rfl) (m := 181) rfl]; simp only [sims, core, pe, Nat.reduceAdd, Int.reduceBEq, Int.reduceBNe, Int.reduceLT, Int.reduceLE, Go.Proofs.Tryz.f135, fx_135, hop]
  cases h0 : (e.name == [])
  · simp only [sims, core, pe, Nat.reduceAdd, Int.reduceBEq, Int.reduceBNe, Int.reduceLT, Int.reduceLE, fx_135, hop, h0]
  simp only [sims, core, pe, Nat.reduceAdd, Int.reduceBEq, Int.reduceBNe, Int.reduceLT, Int.reduceLE, fx_135, hop, h0]
  cases h1 : (e.n == 0)
  · simp only [sims, core, pe, Nat.reduceAdd, Int.reduceBEq, Int.reduceBNe, Int.reduceLT, Int.reduceLE, fx_135, hop, h0, h1]
  simp only [sims, core, pe, Nat.reduceAdd, Int.reduceBEq, Int.reduceBNe, Int.reduceLT, Int.reduceLE, fx_135, hop, h0, h1]
  cases h2 : decide ((e.cons.length : Int) ≤ 0)
  · simp only [sims, core, pe, Nat.reduceAdd, Int.reduceBEq, Int.reduceBNe, Int.reduceLT, Int.reduceLE, fx_135, hop, h0, h1, h2]
  simp only [sims, core, pe, Nat.reduceAdd, Int.reduceBEq, Int.reduceBNe, Int.reduceLT, Int.reduceLE, fx_135, hop, h0, h1, h2]
  cases h3 : decide ((2 : Int) ≤ (e.kids.length : Int))
  · simp only [sims, core, pe, Nat.reduceAdd, Int.reduceBEq, Int.reduceBNe, Int.reduceLT, Int.reduceLE, fx_135, hop, h0, h1, h2, h3]
  simp only [sims, core, pe, Nat.reduceAdd, Int.reduceBEq, Int.reduceBNe, Int.reduceLT, Int.reduceLE, fx_135, hop, h0, h1, h2, h3]
theorem rshape_9 (made : Bool) (e : PExpr) (hop : e.op = 9) (hs : e.Small) : C 135 [.agg e.cells, .bool made] [] = some (.ret (.bool (shapeB made e)) .same) := by
  have hw : shapeB made e = ((e.name == []) && (e.n == 0) && decide ((e.cons.length : Int) ≤ 0) && decide ((1 : Int) ≤ (e.kids.length : Int)) && decide ((e.kids.length : Int) ≤ 1)) := by
    have h0 : shapeB made e = ((e.name == []) && (e.n == 0) && decide ((0 : Int) ≤ (e.cons.length : Int)) && decide ((e.cons.length : Int) ≤ 0) && decide ((1 : Int) ≤ (e.kids.length : Int)) && decide ((e.kids.length : Int) ≤ 1)) := by
      unfold shapeB; rw [hop]; rfl
    exact h0.trans (by first | rfl | simp only [core])
  rw [hw]; clear hw
  rw [C_fn rfl Go.Proofs.Tryz.func135 rfl (by kernel_rfl) (m := 181) rfl]; simp only [sims, core, pe, Nat.reduceAdd, Int.reduceBEq, Int.reduceBNe, Int.reduceLT, Int.reduceLE, Go.Proofs.Tryz.f135, fx_135, hop]
  cases h0 : (e.name == [])
  · simp only [sims, core, pe, Nat.reduceAdd, Int.reduceBEq, Int.reduceBNe, Int.reduceLT, Int.reduceLE, fx_135, hop, h0]
  simp only [sims, core, pe, Nat.reduceAdd, Int.reduceBEq, Int.reduceBNe, Int.reduceLT, Int.reduceLE, fx_135, hop, h0]
  cases h1 : (e.n == 0)
  · simp only [sims, core, pe, Nat.reduceAdd, Int.reduceBEq, Int.reduceBNe, Int.reduceLT, Int.reduceLE, fx_135, hop, h0, h1]
  simp only [sims, core, pe, Nat.reduceAdd, Int.reduceBEq, Int.reduceBNe, Int.reduceLT, Int.reduceLE, fx_135, hop, h0, h1]
  cases h2 : decide ((e.cons.length : Int) ≤ 0)
  · simp only [sims, core, pe, Nat.reduceAdd, Int.reduceBEq, Int.reduceBNe, Int.reduceLT, Int.reduceLE, fx_135, hop, h0, h1, h2]
  simp only [sims, core, pe, Nat.reduceAdd, Int.reduceBEq, Int.reduceBNe, Int.reduceLT, Int.reduceLE, fx_135, hop, h0, h1, h2]
  cases h3 : decide ((1 : Int) ≤ (e.kids.length : Int))
  · simp only [sims, core, pe, Nat.reduceAdd, Int.reduceBEq, Int.reduceBNe, Int.reduceLT, Int.reduceLE, fx_135, hop, h0, h1, h2, h3]
  simp only [sims, core, pe, Nat.reduceAdd, Int.reduceBEq, Int.reduceBNe, Int.reduceLT, Int.reduceLE, fx_135, hop, h0, h1, h2, h3]
theorem rshape_10 (made : Bool) (e : PExpr) (hop : e.op = 10) (hs : e.Small) : C 135 [.agg e.cells, .bool made] [] = some (.ret (.bool (shapeB made e)) .same) := by
  have hw : shapeB made e = ((e.name == []) && (e.n == 0) && decide ((e.cons.length : Int) ≤ 0) && decide ((2 : Int) ≤ (e.kids.length : Int)) && decide ((e.kids.length : Int) ≤ 2)) := by
    have h0 : shapeB made e = ((e.name == []) && (e.n == 0) && decide ((0 : Int) ≤ (e.cons.length : Int)) && decide ((e.cons.length : Int) ≤ 0) && decide ((2 : Int) ≤ (e.kids.length : Int)) && decide ((e.kids.length : Int) ≤ 2)) := by
      unfold shapeB; rw [hop]; rfl
    exact h0.trans (by first | rfl | simp only [core])
  rw [hw]; clear hw
  rw [C_fn rfl Go.Proofs.Tryz.func135 rfl (by kernel_rfl) (m := 181) rfl]; simp only [sims, core, pe, Nat.reduceAdd, Int.reduceBEq, Int.reduceBNe, Int.reduceLT, Int.reduceLE, Go.Proofs.Tryz.f135, fx_135, hop]
  cases h0 : (e.name == [])
  · simp only [sims, core, pe, Nat.reduceAdd, Int.reduceBEq, Int.reduceBNe, Int.reduceLT, Int.reduceLE, fx_135, hop, h0]
  simp only [sims, core, pe, Nat.reduceAdd, Int.reduceBEq, Int.reduceBNe, Int.reduceLT, Int.reduceLE, fx_135, hop, h0]
  cases h1 : (e.n == 0)
  · simp only [sims, core, pe, Nat.reduceAdd, Int.reduceBEq, Int.reduceBNe, Int.reduceLT, Int.reduceLE, fx_135, hop, h0, h1]
  simp only [sims, core, pe, Nat.reduceAdd, Int.reduceBEq, Int.reduceBNe, Int.reduceLT, Int.reduceLE, fx_135, hop, h0, h1]
  cases h2 : decide ((e.cons.length : Int) ≤ 0)
  · simp only [sims, core, pe, Nat.reduceAdd, Int.reduceBEq, Int.reduceBNe, Int.reduceLT, Int.reduceLE, fx_135, hop, h0, h1, h2]
  simp only [sims, core, pe, Nat.reduceAdd, Int.reduceBEq, Int.reduceBNe, Int.reduceLT, Int.reduceLE, fx_135, hop, h0, h1, h2]
  cases h3 : decide ((2 : Int) ≤ (e.kids.length : Int))
  · simp only [sims, core, pe, Nat.reduceAdd, Int.reduceBEq, Int.reduceBNe, Int.reduceLT, Int.reduceLE, fx_135, hop, h0, h1, h2, h3]
  simp only [sims, core, pe, Nat.reduceAdd, Int.reduceBEq, Int.reduceBNe, Int.reduceLT, Int.reduceLE, fx_135, hop, h0, h1, h2, h3]
theorem rshape_11 (made : Bool) (e : PExpr) (hop : e.op = 11) (hs : e.Small) : C 135 [.agg e.cells, .bool made] [] = some (.ret (.bool (shapeB made e)) .same) := by
  have hw : shapeB made e = (nameB made e.name && (e.n == 0) && decide ((1 : Int) ≤ (e.cons.length : Int)) && decide ((e.cons.length : Int) ≤ 1) && decide ((1 : Int) ≤ (e.kids.length : Int)) && decide ((e.kids.length : Int) ≤ 1)) := by
    have h0 : shapeB made e = (nameB made e.name && (e.n == 0) && decide ((1 : Int) ≤ (e.cons.length : Int)) && decide ((e.cons.length : Int) ≤ 1) && decide ((1 : Int) ≤ (e.kids.length : Int)) && decide ((e.kids.length : Int) ≤ 1)) := by
      unfold shapeB; rw [hop]; rfl
    exact h0.trans (by first | rfl | simp only [core])
  rw [hw]; clear hw
  have e2 := rname_c made e.name hs.name
  rw [C_fn rfl Go.Proofs.Tryz.func135 rfl (by kernel_rfl) (m := 181) rfl]; simp only [sims, core, pe, Nat.reduceAdd, Int.reduceBEq, Int.reduceBNe, Int.reduceLT, Int.reduceLE, Go.Proofs.Tryz.f135, fx_135, hop, e2 _]
  cases h0 : nameB made e.name
  · simp only [sims, core, pe, Nat.reduceAdd, Int.reduceBEq, Int.reduceBNe, Int.reduceLT, Int.reduceLE, fx_135, hop, e2 _, h0]
  simp only [sims, core, pe, Nat.reduceAdd, Int.reduceBEq, Int.reduceBNe, Int.reduceLT, Int.reduceLE, fx_135, hop, e2 _, h0]
  cases h1 : (e.n == 0)
  · simp only [sims, core, pe, Nat.reduceAdd, Int.reduceBEq, Int.reduceBNe, Int.reduceLT, Int.reduceLE, fx_135, hop, e2 _, h0, h1]
  simp only [sims, core, pe, Nat.reduceAdd, Int.reduceBEq, Int.reduceBNe, Int.reduceLT, Int.reduceLE, fx_135, hop, e2 _, h0, h1]
  cases h2 : decide ((1 : Int) ≤ (e.cons.length : Int))
  · simp only [sims, core, pe, Nat.reduceAdd, Int.reduceBEq, Int.reduceBNe, Int.reduceLT, Int.reduceLE, fx_135, hop, e2 _, h0, h1, h2]
  simp only [sims, core, pe, Nat.reduceAdd, Int.reduceBEq, Int.reduceBNe, Int.reduceLT, Int.reduceLE, fx_135, hop, e2 _, h0, h1, h2]
  cases h3 : decide ((e.cons.length : Int) ≤ 1)
  · simp only [sims, core, pe, Nat.reduceAdd, Int.reduceBEq, Int.reduceBNe, Int.reduceLT, Int.reduceLE, fx_135, hop, e2 _, h0, h1, h2, h3]
  simp only [sims, core, pe, Nat.reduceAdd, Int.reduceBEq, Int.reduceBNe, Int.reduceLT, Int.reduceLE, fx_135, hop, e2 _, h0, h1, h2, h3]
  cases h4 : decide ((1 : Int) ≤ (e.kids.length : Int))
  · simp only [sims, core, pe, Nat.reduceAdd, Int.reduceBEq, Int.reduceBNe, Int.reduceLT, Int.reduceLE, fx_135, hop, e2 _, h0, h1, h2, h3, h4]
  simp only [sims, core, pe, Nat.reduceAdd, Int.reduceBEq, Int.reduceBNe, Int.reduceLT, Int.reduceLE, fx_135, hop, e2 _, h0, h1, h2, h3, h4]
theorem rshape_12 (made : Bool) (e : PExpr) (hop : e.op = 12) (hs : e.Small) : C 135 [.agg e.cells, .bool made] [] = some (.ret (.bool (shapeB made e)) .same) := by
  have hw : shapeB made e = (nameB made e.name && (e.n == 0) && decide ((1 : Int) ≤ (e.cons.length : Int)) && decide ((e.cons.length : Int) ≤ 8) && decide ((1 : Int) ≤ (e.kids.length : Int)) && decide ((e.kids.length : Int) ≤ 8)) := by
    have h0 : shapeB made e = (nameB made e.name && (e.n == 0) && decide ((1 : Int) ≤ (e.cons.length : Int)) && decide ((e.cons.length : Int) ≤ 8) && decide ((1 : Int) ≤ (e.kids.length : Int)) && decide ((e.kids.length : Int) ≤ 8)) := by
      unfold shapeB; rw [hop]; rfl
    exact h0.trans (by first | rfl | simp only [core])
  rw [hw]; clear hw
  have e2 := rname_c made e.name hs.name
  rw [C_fn rfl Go.Proofs.Tryz.func135 rfl (by kernel_rfl) (m := 181) rfl]; simp only [sims, core, pe, Nat.reduceAdd, Int.reduceBEq, Int.reduceBNe, Int.reduceLT, Int.reduceLE, Go.Proofs.Tryz.f135, fx_135, hop, e2 _]
  cases h0 : nameB made e.name
  · simp only [sims, core, pe, Nat.reduceAdd, Int.reduceBEq, Int.reduceBNe, Int.reduceLT, Int.reduceLE, fx_135, hop, e2 _, h0]
  simp only [sims, core, pe, Nat.reduceAdd, Int.reduceBEq, Int.reduceBNe, Int.reduceLT, Int.reduceLE, fx_135, hop, e2 _, h0]
  cases h1 : (e.n == 0)
  · simp only [sims, core, pe, Nat.reduceAdd, Int.reduceBEq, Int.reduceBNe, Int.reduceLT, Int.reduceLE, fx_135, hop, e2 _, h0, h1]
  simp only [sims, core, pe, Nat.reduceAdd, Int.reduceBEq, Int.reduceBNe, Int.reduceLT, Int.reduceLE, fx_135, hop, e2 _, h0, h1]
  cases h2 : decide ((1 : Int) ≤ (e.cons.length : Int))
  · simp only [sims, core, pe, Nat.reduceAdd, Int.reduceBEq, Int.reduceBNe, Int.reduceLT, Int.reduceLE, fx_135, hop, e2 _, h0, h1, h2]
  simp only [sims, core, pe, Nat.reduceAdd, Int.reduceBEq, Int.reduceBNe, Int.reduceLT, Int.reduceLE, fx_135, hop, e2 _, h0, h1, h2]
  cases h3 : decide ((e.cons.length : Int) ≤ 8)
  · simp only [sims, core, pe, Nat.reduceAdd, Int.reduceBEq, Int.reduceBNe, Int.reduceLT, Int.reduceLE, fx_135, hop, e2 _, h0, h1, h2, h3]
  simp only [sims, core, pe, Nat.reduceAdd, Int.reduceBEq, Int.reduceBNe, Int.reduceLT, Int.reduceLE, fx_135, hop, e2 _, h0, h1, h2, h3]
  cases h4 : decide ((1 : Int) ≤ (e.kids.length : Int))
  · simp only [sims, core, pe, Nat.reduceAdd, Int.reduceBEq, Int.reduceBNe, Int.reduceLT, Int.reduceLE, fx_135, hop, e2 _, h0, h1, h2, h3, h4]
  simp only [sims, core, pe, Nat.reduceAdd, Int.reduceBEq, Int.reduceBNe, Int.reduceLT, Int.reduceLE, fx_135, hop, e2 _, h0, h1, h2, h3, h4]
theorem rshape_13 (made : Bool) (e : PExpr) (hop : e.op = 13) (hs : e.Small) : C 135 [.agg e.cells, .bool made] [] = some (.ret (.bool (shapeB made e)) .same) := by
  have hw : shapeB made e = (nameB made e.name && (e.n == 0) && decide ((1 : Int) ≤ (e.cons.length : Int)) && decide ((e.cons.length : Int) ≤ 8) && decide ((1 : Int) ≤ (e.kids.length : Int)) && decide ((e.kids.length : Int) ≤ 8)) := by
    have h0 : shapeB made e = (nameB made e.name && (e.n == 0) && decide ((1 : Int) ≤ (e.cons.length : Int)) && decide ((e.cons.length : Int) ≤ 8) && decide ((1 : Int) ≤ (e.kids.length : Int)) && decide ((e.kids.length : Int) ≤ 8)) := by
      unfold shapeB; rw [hop]; rfl
    exact h0.trans (by first | rfl | simp only [core])
  rw [hw]; clear hw
  have e2 := rname_c made e.name hs.name
  rw [C_fn rfl Go.Proofs.Tryz.func135 rfl (by kernel_rfl) (m := 181) rfl]; simp only [sims, core, pe, Nat.reduceAdd, Int.reduceBEq, Int.reduceBNe, Int.reduceLT, Int.reduceLE, Go.Proofs.Tryz.f135, fx_135, hop, e2 _]
  cases h0 : nameB made e.name
  · simp only [sims, core, pe, Nat.reduceAdd, Int.reduceBEq, Int.reduceBNe, Int.reduceLT, Int.reduceLE, fx_135, hop, e2 _, h0]
  simp only [sims, core, pe, Nat.reduceAdd, Int.reduceBEq, Int.reduceBNe, Int.reduceLT, Int.reduceLE, fx_135, hop, e2 _, h0]
  cases h1 : (e.n == 0)
  · simp only [sims, core, pe, Nat.reduceAdd, Int.reduceBEq, Int.reduceBNe, Int.reduceLT, Int.reduceLE, fx_135, hop, e2 _, h0, h1]
  simp only [sims, core, pe, Nat.reduceAdd, Int.reduceBEq, Int.reduceBNe, Int.reduceLT, Int.reduceLE, fx_135, hop, e2 _, h0, h1]
  cases h2 : decide ((1 : Int) ≤ (e.cons.length : Int))
  · simp only [sims, core, pe, Nat.reduceAdd, Int.reduceBEq, Int.reduceBNe, Int.reduceLT, Int.reduceLE, fx_135, hop, e2 _, h0, h1, h2]
  simp only [sims, core, pe, Nat.reduceAdd, Int.reduceBEq, Int.reduceBNe, Int.reduceLT, Int.reduceLE, fx_135, hop, e2 _, h0, h1, h2]
  cases h3 : decide ((e.cons.length : Int) ≤ 8)
  · simp only [sims, core, pe, Nat.reduceAdd, Int.reduceBEq, Int.reduceBNe, Int.reduceLT, Int.reduceLE, fx_135, hop, e2 _, h0, h1, h2, h3]
  simp only [sims, core, pe, Nat.reduceAdd, Int.reduceBEq, Int.reduceBNe, Int.reduceLT, Int.reduceLE, fx_135, hop, e2 _, h0, h1, h2, h3]
  cases h4 : decide ((1 : Int) ≤ (e.kids.length : Int))
  · simp only [sims, core, pe, Nat.reduceAdd, Int.reduceBEq, Int.reduceBNe, Int.reduceLT, Int.reduceLE, fx_135, hop, e2 _, h0, h1, h2, h3, h4]
  simp only [sims, core, pe, Nat.reduceAdd, Int.reduceBEq, Int.reduceBNe, Int.reduceLT, Int.reduceLE, fx_135, hop, e2 _, h0, h1, h2, h3, h4]
theorem rshape_14 (made : Bool) (e : PExpr) (hop : e.op = 14) (hs : e.Small) : C 135 [.agg e.cells, .bool made] [] = some (.ret (.bool (shapeB made e)) .same) := by
  have hw : shapeB made e = (nameB made e.name && (e.n == 0) && decide ((e.cons.length : Int) ≤ 6) && decide ((1 : Int) ≤ (e.kids.length : Int)) && decide ((e.kids.length : Int) ≤ 6)) := by
    have h0 : shapeB made e = (nameB made e.name && (e.n == 0) && decide ((0 : Int) ≤ (e.cons.length : Int)) && decide ((e.cons.length : Int) ≤ 6) && decide ((1 : Int) ≤ (e.kids.length : Int)) && decide ((e.kids.length : Int) ≤ 6)) := by
      unfold shapeB; rw [hop]; rfl
    exact h0.trans (by first | rfl | simp only [core])
  rw [hw]; clear hw
  have e2 := rname_c made e.name hs.name
  rw [C_fn rfl Go.Proofs.Tryz.func135 rfl (by kernel_rfl) (m := 181) rfl]; simp only [sims, core, pe, Nat.reduceAdd, Int.reduceBEq, Int.reduceBNe, Int.reduceLT, Int.reduceLE, Go.Proofs.Tryz.f135, fx_135, hop, e2 _]
  cases h0 : nameB made e.name
  · simp only [sims, core, pe, Nat.reduceAdd, Int.reduceBEq, Int.reduceBNe, Int.reduceLT, Int.reduceLE, fx_135, hop, e2 _, h0]
  simp only [sims, core, pe, Nat.reduceAdd, Int.reduceBEq, Int.reduceBNe, Int.reduceLT, Int.reduceLE, fx_135, hop, e2 _, h0]
  cases h1 : (e.n == 0)
  · simp only [sims, core, pe, Nat.reduceAdd, Int.reduceBEq, Int.reduceBNe, Int.reduceLT, Int.reduceLE, fx_135, hop, e2 _, h0, h1]
  simp only [sims, core, pe, Nat.reduceAdd, Int.reduceBEq, Int.reduceBNe, Int.reduceLT, Int.reduceLE, fx_135, hop, e2 _, h0, h1]
  cases h2 : decide ((e.cons.length : Int) ≤ 6)
  · simp only [sims, core, pe, Nat.reduceAdd, Int.reduceBEq, Int.reduceBNe, Int.reduceLT, Int.reduceLE, fx_135, hop, e2 _, h0, h1, h2]
  simp only [sims, core, pe, Nat.reduceAdd, Int.reduceBEq, Int.reduceBNe, Int.reduceLT, Int.reduceLE, fx_135, hop, e2 _, h0, h1, h2]
  cases h3 : decide ((1 : Int) ≤ (e.kids.length : Int))
  · simp only [sims, core, pe, Nat.reduceAdd, Int.reduceBEq, Int.reduceBNe, Int.reduceLT, Int.reduceLE, fx_135, hop, e2 _, h0, h1, h2, h3]
  simp only [sims, core, pe, Nat.reduceAdd, Int.reduceBEq, Int.reduceBNe, Int.reduceLT, Int.reduceLE, fx_135, hop, e2 _, h0, h1, h2, h3]
theorem rshape_15 (made : Bool) (e : PExpr) (hop : e.op = 15) (hs : e.Small) : C 135 [.agg e.cells, .bool made] [] = some (.ret (.bool (shapeB made e)) .same) := by
  have hw : shapeB made e = ((e.name == []) && (e.n == 0) && decide ((e.cons.length : Int) ≤ 0) && decide ((2 : Int) ≤ (e.kids.length : Int)) && decide ((e.kids.length : Int) ≤ 2)) := by
    have h0 : shapeB made e = ((e.name == []) && (e.n == 0) && decide ((0 : Int) ≤ (e.cons.length : Int)) && decide ((e.cons.length : Int) ≤ 0) && decide ((2 : Int) ≤ (e.kids.length : Int)) && decide ((e.kids.length : Int) ≤ 2)) := by
      unfold shapeB; rw [hop]; rfl
    exact h0.trans (by first | rfl | simp only [core])
  rw [hw]; clear hw
  rw [C_fn rfl Go.Proofs.Tryz.func135 rfl (by kernel_rfl) (m := 181) rfl]; simp only [sims, core, pe, Nat.reduceAdd, Int.reduceBEq, Int.reduceBNe, Int.reduceLT, Int.reduceLE, Go.Proofs.Tryz.f135, fx_135, hop]
  cases h0 : (e.name == [])
  · simp only [sims, core, pe, Nat.reduceAdd, Int.reduceBEq, Int.reduceBNe, Int.reduceLT, Int.reduceLE, fx_135, hop, h0]
  simp only [sims, core, pe, Nat.reduceAdd, Int.reduceBEq, Int.reduceBNe, Int.reduceLT, Int.reduceLE, fx_135, hop, h0]
  cases h1 : (e.n == 0)
  · simp only [sims, core, pe, Nat.reduceAdd, Int.reduceBEq, Int.reduceBNe, Int.reduceLT, Int.reduceLE, fx_135, hop, h0, h1]
  simp only [sims, core, pe, Nat.reduceAdd, Int.reduceBEq, Int.reduceBNe, Int.reduceLT, Int.reduceLE, fx_135, hop, h0, h1]
  cases h2 : decide ((e.cons.length : Int) ≤ 0)
  · simp only [sims, core, pe, Nat.reduceAdd, Int.reduceBEq, Int.reduceBNe, Int.reduceLT, Int.reduceLE, fx_135, hop, h0, h1, h2]
  simp only [sims, core, pe, Nat.reduceAdd, Int.reduceBEq, Int.reduceBNe, Int.reduceLT, Int.reduceLE, fx_135, hop, h0, h1, h2]
  cases h3 : decide ((2 : Int) ≤ (e.kids.length : Int))
  · simp only [sims, core, pe, Nat.reduceAdd, Int.reduceBEq, Int.reduceBNe, Int.reduceLT, Int.reduceLE, fx_135, hop, h0, h1, h2, h3]
  simp only [sims, core, pe, Nat.reduceAdd, Int.reduceBEq, Int.reduceBNe, Int.reduceLT, Int.reduceLE, fx_135, hop, h0, h1, h2, h3]
end Go.Ab
