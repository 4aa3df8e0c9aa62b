/- Names, constructors and words, by the reference. -/
import Derived.Test.YtnmejllfnndcbaaGreatDoorAbTypes
import Derived.Test.YtnmejllfnndcbaaGreatDoorAbIdx
import Derived.Test.YtnmejllfnndcbaaGreatDoorAbSl
set_option linter.unusedSimpArgs false
set_option linter.unusedVariables false
namespace Go.Ab
open Go Go.Ab.Tab
set_option maxRecDepth 100000
set_option maxHeartbeats 4000000
set_option linter.unusedSimpArgs false
theorem small_c (z : Int) : Ret C 130 [.int .u8 z] (.bool (lowerB z)) := by
  refine Ret.mk rfl rfl ?_
  rw [C_fn rfl Go.Proofs.Tryz.func130 rfl (by kernel_rfl) (m := 8) rfl]; simp only [sims, core, pe, Nat.reduceAdd, Int.reduceBEq, Int.reduceBNe, Int.reduceLT, Int.reduceLE, Go.Proofs.Tryz.f130, fx_130, lowerB]
  cases h : decide (97 ≤ z) <;> simp only [sims, core, pe, Nat.reduceAdd, Int.reduceBEq, Int.reduceBNe, Int.reduceLT, Int.reduceLE, h]
theorem great_c (z : Int) : Ret C 154 [.int .u8 z] (.bool (upperB z)) := by
  refine Ret.mk rfl rfl ?_
  rw [C_fn rfl Go.Proofs.Tryz.func154 rfl (by kernel_rfl) (m := 8) rfl]; simp only [sims, core, pe, Nat.reduceAdd, Int.reduceBEq, Int.reduceBNe, Int.reduceLT, Int.reduceLE, Go.Proofs.Tryz.f154, fx_154, upperB]
  cases h : decide (65 ≤ z) <;> simp only [sims, core, pe, Nat.reduceAdd, Int.reduceBEq, Int.reduceBNe, Int.reduceLT, Int.reduceLE, h]
theorem rdigit_c (z : Int) : Ret C 167 [.int .u8 z] (.bool (digitB z)) := by
  refine Ret.mk rfl rfl ?_
  rw [C_fn rfl Go.Proofs.Tryz.func167 rfl (by kernel_rfl) (m := 8) rfl]; simp only [sims, core, pe, Nat.reduceAdd, Int.reduceBEq, Int.reduceBNe, Int.reduceLT, Int.reduceLE, Go.Proofs.Tryz.f167, fx_167, digitB]
  cases h : decide (48 ≤ z) <;> simp only [sims, core, pe, Nat.reduceAdd, Int.reduceBEq, Int.reduceBNe, Int.reduceLT, Int.reduceLE, h]
theorem more_c (z : Int) : Ret C 153 [.int .u8 z] (.bool (innerB z)) := by
  refine Ret.mk rfl rfl ?_
  have e1 := small_c z
  have e2 := great_c z
  have e3 := rdigit_c z
  rw [C_fn rfl Go.Proofs.Tryz.func153 rfl (by kernel_rfl) (m := 16) rfl]; simp only [sims, core, pe, Nat.reduceAdd, Int.reduceBEq, Int.reduceBNe, Int.reduceLT, Int.reduceLE, Go.Proofs.Tryz.f153, fx_153, e1 _, innerB]
  cases h : lowerB z
  · cases h2 : upperB z
    · cases h3 : digitB z <;> simp only [sims, core, pe, Nat.reduceAdd, Int.reduceBEq, Int.reduceBNe, Int.reduceLT, Int.reduceLE, h, h2, h3, e2 _, e3 _]
    · simp only [sims, core, pe, Nat.reduceAdd, Int.reduceBEq, Int.reduceBNe, Int.reduceLT, Int.reduceLE, h, h2, e2 _]
  · simp only [sims, core, pe, Nat.reduceAdd, Int.reduceBEq, Int.reduceBNe, Int.reduceLT, Int.reduceLE, h]
theorem run_c (s : Str) (hs : s.length ≤ lenTop) : Ret C 131 [.str s] (.int .i64 (spanN innerB s)) := by
  refine Ret.mk rfl rfl ?_
  rw [C_fn rfl Go.Proofs.Tryz.func131 rfl (by kernel_rfl) (m := 16) rfl]; simp only [sims, core, pe, Nat.reduceAdd, Int.reduceBEq, Int.reduceBNe, Int.reduceLT, Int.reduceLE, Go.Proofs.Tryz.f131, fx_131, hs]
  generalize hb : codeB PP cmp0 C lpC _ = f; generalize hl : lpC f _ = r
  obtain ⟨ex, s', rfl, rfl, h2⟩ := lpC_at (α := Nat) hl [4, 5, 6, 7, 8, 9, 10, 11, 12, 13, 14, 15] (fun i => [(3, .int .i64 i)]) (fun i => i ≤ s.length) (fun i => s.length - i) (fun i => i + spanN innerB (s.drop i))
    (fun ts H r ex st => ex = .exit 0 ∧ At [4, 5, 6, 7, 8, 9, 10, 11, 12, 13, 14, 15] ts H [(3, .int .i64 r)] st) 0 (Nat.zero_le _) (by simp only [At, ats, Int.natCast_zero]) (by
      intro i j H d hi
      clear hl; subst hb
      by_cases hlt : i < s.length
      · have e1 : ((i : Int) < (s.length : Int)) := by omega
        have e3 : s[i]? = some s[i] := by simp [hlt]
        have e5 := more_c s[i].toNat
        simp only [sims, core, pe, Nat.reduceAdd, Int.reduceBEq, Int.reduceBNe, Int.reduceLT, Int.reduceLE, fx_131, hs, e1, e3, e5 _]
        cases hc : innerB s[i].toNat
        · simp only [sims, core, pe, Nat.reduceAdd, Int.reduceBEq, Int.reduceBNe, Int.reduceLT, Int.reduceLE]
          exact .inr ⟨_, _, rfl, by simp, rfl, by simp only [List.drop_eq_getElem_cons hlt, spanN, hc, At, ats]; rfl⟩
        · simp only [sims, core, pe, Nat.reduceAdd, Int.reduceBEq, Int.reduceBNe, Int.reduceLT, Int.reduceLE, wrap_nat (show i ≤ lenTop by omega)]
          exact .inl ⟨i + 1, _, rfl, hlt, by simp only [At, ats, Int.natCast_zero], by simp only []; omega, by simp only [List.drop_eq_getElem_cons hlt, spanN, hc, if_true]; omega⟩
      · have e1 : ¬ ((i : Int) < (s.length : Int)) := by omega
        have e2 : i = s.length := by omega
        simp only [sims, core, pe, Nat.reduceAdd, Int.reduceBEq, Int.reduceBNe, Int.reduceLT, Int.reduceLE, fx_131, hs, e1]
        subst e2
        exact .inr ⟨_, _, rfl, by simp, rfl, by simp only [List.drop_length, spanN, Nat.add_zero, At, ats]⟩)
  rw [List.drop_zero, Nat.zero_add] at h2
  obtain ⟨j, H, d, rfl⟩ := h2.elim
  clear hl
  simp only [sims, core, pe, Nat.reduceAdd, Int.reduceBEq, Int.reduceBNe, Int.reduceLT, Int.reduceLE]
theorem has_c (l : List Str) (s : Str) (hl : l.length ≤ lenTop) : Ret C 132 [encStrs l, .str s] (.bool (l.any (· == s))) := by
  refine Ret.mk rfl rfl ?_
  rw [C_fn rfl Go.Proofs.Tryz.func132 rfl (by kernel_rfl) (m := 16) rfl]; simp only [sims, core, pe, Nat.reduceAdd, Int.reduceBEq, Int.reduceBNe, Int.reduceLT, Int.reduceLE, Go.Proofs.Tryz.f132, fx_132, encStrs]
  generalize hb : codeB PP cmp0 C lpC _ = f; generalize hl0 : lpC f _ = r
  obtain ⟨ex, s', rfl, h2⟩ := lpC_at (α := Nat) hl0 [4, 6, 7, 8, 9, 10, 11, 12, 13, 14, 15, 16, 17] (fun i => [(5, .int .i64 i)]) (fun i => i ≤ l.length) (fun i => l.length - i) (fun i => (l.drop i).any (· == s))
    (fun ts H r ex st => (r = false ∧ ex = .exit 0 ∧ At [4, 5, 6, 7, 8, 9, 10, 11, 12, 13, 14, 15, 16, 17] ts H [] st) ∨ (r = true ∧ ex = .ret ∧ At [5, 6, 7, 8, 9, 10, 11, 12, 13, 14, 15, 16, 17] ts H [(4, .bool true)] st)) 0 (Nat.zero_le _) (by simp only [At, ats, Int.natCast_zero]) (by
      intro i j H d hi
      clear hl0; subst hb
      by_cases hlt : i < l.length
      · have e1 : ((i : Int) < (l.length : Int)) := by omega
        have e3 := strs_get l i hlt
        simp only [sims, core, pe, Nat.reduceAdd, Int.reduceBEq, Int.reduceBNe, Int.reduceLT, Int.reduceLE, fx_132, e1, e3]
        cases hc : l[i] == s
        · simp only [sims, core, pe, Nat.reduceAdd, Int.reduceBEq, Int.reduceBNe, Int.reduceLT, Int.reduceLE, wrap_nat (show i ≤ lenTop by omega)]
          exact .inl ⟨i + 1, _, rfl, hlt, by simp only [At, ats, Int.natCast_zero], by simp only []; omega, by simp only [List.drop_eq_getElem_cons hlt, List.any_cons, hc, Bool.false_or]⟩
        · simp only [sims, core, pe, Nat.reduceAdd, Int.reduceBEq, Int.reduceBNe, Int.reduceLT, Int.reduceLE]
          exact .inr ⟨_, _, rfl, by simp, .inr ⟨by simp only [List.drop_eq_getElem_cons hlt, List.any_cons, hc, Bool.true_or], rfl, by simp only [At, ats, Int.natCast_zero]⟩⟩
      · have e1 : ¬ ((i : Int) < (l.length : Int)) := by omega
        simp only [sims, core, pe, Nat.reduceAdd, Int.reduceBEq, Int.reduceBNe, Int.reduceLT, Int.reduceLE, fx_132, e1]
        exact .inr ⟨_, _, rfl, by simp, .inl ⟨by simp only []; rw [List.drop_eq_nil_of_le (by omega)]; rfl, rfl, by simp only [At, ats, Int.natCast_zero]⟩⟩)
  rw [List.drop_zero] at h2
  rcases h2 with ⟨hr, rfl, h2⟩ | ⟨hr, rfl, h2⟩
  · obtain ⟨j, H, d, rfl⟩ := h2.elim
    clear hl0
    simp only [sims, core, pe, Nat.reduceAdd, Int.reduceBEq, Int.reduceBNe, Int.reduceLT, Int.reduceLE, hr]
  · obtain ⟨j, H, d, rfl⟩ := h2.elim
    clear hl0
    simp only [sims, core, pe, Nat.reduceAdd, Int.reduceBEq, Int.reduceBNe, Int.reduceLT, Int.reduceLE, hr]
theorem any_comm (l : List Str) (s : Str) : l.any (· == s) = l.any (s == ·) := by
  congr 1; funext x; exact Bool.beq_comm
theorem len0 : decide ((1 : Int) ≤ ((0 : Nat) : Int)) = false := by decide
theorem int_dec24 (n : Nat) : decide (((n + 1 : Nat) : Int) ≤ 24) = decide (n ≤ 23) := by
  by_cases h : n ≤ 23
  · rw [decide_eq_true h, decide_eq_true (by omega)]
  · rw [decide_eq_false h, decide_eq_false (by omega)]
theorem risName_c (s : Str) (hs : s.length ≤ lenTop) : Ret C 101 [.str s] (.bool (isNameB s)) := by
  refine Ret.mk rfl rfl ?_
  have e1 := run_c s hs
  have e6 := rwords_c
  have e7 := has_c wordL s (by decide)
  rw [any_comm] at e7
  cases s with
  | nil => rw [C_fn rfl Go.Proofs.Tryz.func101 rfl (by kernel_rfl) (m := 28) rfl]; simp only [sims, core, pe, Nat.reduceAdd, Int.reduceBEq, Int.reduceBNe, Int.reduceLT, Int.reduceLE, Go.Proofs.Tryz.f101, fx_101, isNameB, shapedB, len0]
  | cons c r =>
    have e2 := small_c c.toNat
    have e5 := int_beq (spanN innerB (c :: r)) (c :: r).length
    have e8 : decide (((1 : Int)) ≤ ((r.length + 1 : Nat) : Int)) = true := decide_eq_true (by omega)
    have hs' := hs
    simp only [List.length_cons] at e5 hs'
    rw [C_fn rfl Go.Proofs.Tryz.func101 rfl (by kernel_rfl) (m := 28) rfl]; simp only [sims, core, pe, Nat.reduceAdd, Int.reduceBEq, Int.reduceBNe, Int.reduceLT, Int.reduceLE, Go.Proofs.Tryz.f101, fx_101, isNameB, shapedB, int_dec24, hs', e8]
    cases h1 : decide (r.length ≤ 23)
    · simp only [sims, core, pe, Nat.reduceAdd, Int.reduceBEq, Int.reduceBNe, Int.reduceLT, Int.reduceLE, fx_101, h1]
    cases h2 : lowerB c.toNat
    · simp only [sims, core, pe, Nat.reduceAdd, Int.reduceBEq, Int.reduceBNe, Int.reduceLT, Int.reduceLE, fx_101, h1, h2, e2 _]
    cases h3 : spanN innerB (c :: r) == r.length + 1
    · simp only [sims, core, pe, Nat.reduceAdd, Int.reduceBEq, Int.reduceBNe, Int.reduceLT, Int.reduceLE, fx_101, h1, h2, h3, e2 _, e1 _, hs', e5]
    · simp only [sims, core, pe, Nat.reduceAdd, Int.reduceBEq, Int.reduceBNe, Int.reduceLT, Int.reduceLE, fx_101, h1, h2, h3, e2 _, e1 _, hs', e5, e6 _, e7 _]
theorem risCon_c (s : Str) (hs : s.length ≤ lenTop) : Ret C 134 [.str s] (.bool (isConB s)) := by
  refine Ret.mk rfl rfl ?_
  have e1 := run_c s hs
  cases s with
  | nil => rw [C_fn rfl Go.Proofs.Tryz.func134 rfl (by kernel_rfl) (m := 22) rfl]; simp only [sims, core, pe, Nat.reduceAdd, Int.reduceBEq, Int.reduceBNe, Int.reduceLT, Int.reduceLE, Go.Proofs.Tryz.f134, fx_134, isConB, shapedB, len0]
  | cons c r =>
    have e2 := great_c c.toNat
    have e5 := int_beq (spanN innerB (c :: r)) (c :: r).length
    have e8 : decide (((1 : Int)) ≤ ((r.length + 1 : Nat) : Int)) = true := decide_eq_true (by omega)
    have hs' := hs
    simp only [List.length_cons] at e5 hs'
    rw [C_fn rfl Go.Proofs.Tryz.func134 rfl (by kernel_rfl) (m := 22) rfl]; simp only [sims, core, pe, Nat.reduceAdd, Int.reduceBEq, Int.reduceBNe, Int.reduceLT, Int.reduceLE, Go.Proofs.Tryz.f134, fx_134, isConB, shapedB, int_dec24, hs', e8]
    cases h1 : decide (r.length ≤ 23)
    · simp only [sims, core, pe, Nat.reduceAdd, Int.reduceBEq, Int.reduceBNe, Int.reduceLT, Int.reduceLE, fx_134, h1]
    cases h2 : upperB c.toNat
    · simp only [sims, core, pe, Nat.reduceAdd, Int.reduceBEq, Int.reduceBNe, Int.reduceLT, Int.reduceLE, fx_134, h1, h2, e2 _]
    cases h3 : spanN innerB (c :: r) == r.length + 1
    · simp only [sims, core, pe, Nat.reduceAdd, Int.reduceBEq, Int.reduceBNe, Int.reduceLT, Int.reduceLE, fx_134, h1, h2, h3, e2 _, e1 _, hs', e5]
    · simp only [sims, core, pe, Nat.reduceAdd, Int.reduceBEq, Int.reduceBNe, Int.reduceLT, Int.reduceLE, fx_134, h1, h2, h3, e2 _, e1 _, hs', e5]
end Go.Ab
/- What may stand in fields. -/
namespace Go.Ab
open Go Go.Ab.Tab
set_option maxRecDepth 100000
set_option maxHeartbeats 4000000
set_option linter.unusedSimpArgs false
theorem all1_c (g : FuncId) (fst : List AVal) (s : Str) (b : Bool) (hp : Ret C g (fst ++ [.str s]) (.bool b)) :
    C 95 [.str s, .ptr 0 0] [.box [.func g fst []]] = some (.ret (.bool (!b)) .same) := by
  rw [C_fn rfl Go.Proofs.Tryz.func95 rfl (by kernel_rfl) (m := 6) rfl]; simp only [sims, core, pe, Nat.reduceAdd, Int.reduceBEq, Int.reduceBNe, Int.reduceLT, Int.reduceLE, Go.Proofs.Tryz.f95, fx_95, List.append_nil, hp _, leave_clean 1 _ _ [] (by simp)]
theorem int_ge (a : Nat) (m : Int) : decide (m ≤ (a : Int)) = decide (m ≤ a) := rfl
theorem all_c (l : List Str) (hl : l.length ≤ lenTop) (least most : Int) (g : FuncId) (fst : List AVal) (hf : refsL fst = []) (p : Str → Bool) (hp : ∀ x ∈ l, Ret C g (fst ++ [.str x]) (.bool (p x))) :
    Ret C 56 [encStrs l, .int .i64 least, .int .i64 most, .func g fst []] (.bool (decide (least ≤ l.length) && decide ((l.length : Int) ≤ most) && !l.any fun s => !p s)) := by
  refine Ret.mk (by simp [refsL, refs, hf, encStrs]) rfl ?_
  have e1 := contains_Str_c l hl 95 [.func g fst []] (by simp [refsL, refs, hf]) (fun s => !p s) (fun x hx H =>
    callA_box1 (b := 0) _ rfl rfl (by simp [refsL, refs, hf]) (all1_c g fst x (p x) (hp x hx)) rfl)
  have e2 : ∀ H, callA C (.box [.func g fst []] :: H) 94 [.slice (l.map fun s => [.str s]) .free, .func 95 [] [.ptr 0 0]] = some (.ret (.bool (l.any fun s => !p s)) .same) := fun H =>
    callA_box1 (b := 0) _ rfl rfl (by simp [refsL, refs, hf]) e1 rfl
  rw [C_fn rfl Go.Proofs.Tryz.func56 rfl (by kernel_rfl) (m := 21) rfl]; simp only [sims, core, pe, Nat.reduceAdd, Int.reduceBEq, Int.reduceBNe, Int.reduceLT, Int.reduceLE, Go.Proofs.Tryz.f56, fx_56, encStrs]
  cases h1 : decide (least ≤ (l.length : Int))
  · simp only [sims, core, pe, Nat.reduceAdd, Int.reduceBEq, Int.reduceBNe, Int.reduceLT, Int.reduceLE, fx_56, h1]
  cases h2 : decide ((l.length : Int) ≤ most)
  · simp only [sims, core, pe, Nat.reduceAdd, Int.reduceBEq, Int.reduceBNe, Int.reduceLT, Int.reduceLE, fx_56, h1, h2]
  · simp only [sims, core, pe, Nat.reduceAdd, Int.reduceBEq, Int.reduceBNe, Int.reduceLT, Int.reduceLE, fx_56, h1, h2, e2]
end Go.Ab
/- Names without the sign of what was made. -/
namespace Go.Ab
open Go Go.Ab.Tab
set_option maxRecDepth 100000
set_option maxHeartbeats 4000000
set_option linter.unusedSimpArgs false
def fieldA (made : Bool) : AVal := .agg [.bool made]
def bareB (made : Bool) : Str → Str
  | [] => []
  | c :: r => if made && c == 95 && !r.isEmpty then r else c :: r
theorem top1 : 1 ≤ lenTop := by decide
theorem top0 : 0 ≤ lenTop := by decide
theorem one_beq (c : UInt8) : ([c] == [(95 : UInt8)]) = (c == 95) := by simp [List.cons_beq_cons]
theorem ge1 (n : Nat) : decide (((1 : Nat) : Int) ≤ ((n + 1 : Nat) : Int)) = true := decide_eq_true (by omega)
theorem ge10 : decide (((1 : Nat) : Int) ≤ ((0 : Nat) : Int)) = false := by decide
theorem le1 (n : Nat) : (((1 : Nat) : Int) ≤ ((n + 1 : Nat) : Int)) = True := eq_true (by omega)
theorem hasPre_c (s : Str) (hs : s.length ≤ lenTop) : Ret C 115 [.str s, .str [95]] (.bool (match s with | [] => false | c :: _ => c == 95)) := by
  refine Ret.mk rfl rfl ?_
  cases s with
  | nil => rw [C_fn rfl Go.Proofs.Tryz.func115 rfl (by kernel_rfl) (m := 16) rfl]; simp only [sims, core, pe, Nat.reduceAdd, Int.reduceBEq, Int.reduceBNe, Int.reduceLT, Int.reduceLE, Go.Proofs.Tryz.f115, fx_115, top1, top0, ge10]
  | cons c r =>
    have hs' : r.length + 1 ≤ lenTop := hs
    rw [C_fn rfl Go.Proofs.Tryz.func115 rfl (by kernel_rfl) (m := 16) rfl]; simp only [sims, core, pe, Nat.reduceAdd, Int.reduceBEq, Int.reduceBNe, Int.reduceLT, Int.reduceLE, Go.Proofs.Tryz.f115, fx_115, top1, hs', ge1, le1, sl_hi, one_beq]
def cutS : Str → Str
  | [] => []
  | c :: r => if c == 95 then r else c :: r
def cutO : Str → Bool
  | [] => false
  | c :: _ => c == 95
theorem cut1_c (s : Str) (hs : s.length ≤ lenTop) : Ret C 150 [.str s, .str [95]] (.tuple [.str (cutS s), .bool (cutO s)]) := by
  refine Ret.mk rfl rfl ?_
  have e1 := hasPre_c s hs
  cases s with
  | nil => rw [C_fn rfl Go.Proofs.Tryz.func150 rfl (by kernel_rfl) (m := 13) rfl]; simp only [sims, core, pe, Nat.reduceAdd, Int.reduceBEq, Int.reduceBNe, Int.reduceLT, Int.reduceLE, Go.Proofs.Tryz.f150, fx_150, e1 _, cutS, cutO]
  | cons c r =>
    have hs' : r.length + 1 ≤ lenTop := hs
    rw [C_fn rfl Go.Proofs.Tryz.func150 rfl (by kernel_rfl) (m := 13) rfl]; simp only [sims, core, pe, Nat.reduceAdd, Int.reduceBEq, Int.reduceBNe, Int.reduceLT, Int.reduceLE, Go.Proofs.Tryz.f150, fx_150, e1 _, cutS, cutO]
    cases h : c == 95
    · simp only [sims, core, pe, Nat.reduceAdd, Int.reduceBEq, Int.reduceBNe, Int.reduceLT, Int.reduceLE, fx_150]
    · simp only [sims, core, pe, Nat.reduceAdd, Int.reduceBEq, Int.reduceBNe, Int.reduceLT, Int.reduceLE, fx_150, top1, hs', le1, sl_lo]
theorem cut_c (s : Str) (hs : s.length ≤ lenTop) : Ret C 123 [.str s, .str [95]] (.tuple [.str (cutS s), .bool (cutO s)]) := by
  refine Ret.mk rfl rfl ?_
  have e1 := cut1_c s hs
  rw [C_fn rfl Go.Proofs.Tryz.func123 rfl (by kernel_rfl) (m := 9) rfl]; simp only [sims, core, pe, Nat.reduceAdd, Int.reduceBEq, Int.reduceBNe, Int.reduceLT, Int.reduceLE, Go.Proofs.Tryz.f123, fx_123, e1 _]
theorem nonempty_beq (c : UInt8) (r : Str) : ((c :: r) == ([] : Str)) = false := rfl
theorem bare_c (made : Bool) (s : Str) (hs : s.length ≤ lenTop) : Ret C 93 [fieldA made, .str s] (.str (bareB made s)) := by
  refine Ret.mk rfl rfl ?_
  have e1 := cut_c s hs
  cases s with
  | nil => cases made <;> (rw [C_fn rfl Go.Proofs.Tryz.func93 rfl (by kernel_rfl) (m := 21) rfl]; simp only [sims, core, pe, Nat.reduceAdd, Int.reduceBEq, Int.reduceBNe, Int.reduceLT, Int.reduceLE, Go.Proofs.Tryz.f93, fx_93, fieldA, e1 _, cutS, cutO, bareB])
  | cons c r =>
    rw [C_fn rfl Go.Proofs.Tryz.func93 rfl (by kernel_rfl) (m := 21) rfl]; simp only [sims, core, pe, Nat.reduceAdd, Int.reduceBEq, Int.reduceBNe, Int.reduceLT, Int.reduceLE, Go.Proofs.Tryz.f93, fx_93, fieldA, e1 _, cutS, cutO, bareB]
    cases h : c == 95
    · simp only [sims, core, pe, Nat.reduceAdd, Int.reduceBEq, Int.reduceBNe, Int.reduceLT, Int.reduceLE, fx_93, h]
    · cases made
      · simp only [sims, core, pe, Nat.reduceAdd, Int.reduceBEq, Int.reduceBNe, Int.reduceLT, Int.reduceLE, fx_93, h]
      · cases r with
        | nil => simp only [sims, core, pe, Nat.reduceAdd, Int.reduceBEq, Int.reduceBNe, Int.reduceLT, Int.reduceLE, fx_93, h, List.isEmpty_nil]
        | cons d t => simp only [sims, core, pe, Nat.reduceAdd, Int.reduceBEq, Int.reduceBNe, Int.reduceLT, Int.reduceLE, fx_93, h, nonempty_beq, List.isEmpty_cons]
theorem bareB_small (made : Bool) (s : Str) (hs : s.length ≤ lenTop) : (bareB made s).length ≤ lenTop := by
  cases s with
  | nil => exact hs
  | cons c r =>
    simp only [bareB]
    split
    · simp only [List.length_cons] at hs; omega
    · exact hs
def nameB (made : Bool) (s : Str) : Bool := isNameB (bareB made s)
def conB (made : Bool) (s : Str) : Bool := isConB (bareB made s)
theorem name_c (made : Bool) (s : Str) (hs : s.length ≤ lenTop) : Ret C 55 [fieldA made, .str s] (.bool (nameB made s)) := by
  refine Ret.mk rfl rfl ?_
  have e1 := bare_c made s hs
  have e2 := isName_c (bareB made s) (bareB_small made s hs)
  unfold fieldA at *
  rw [C_fn rfl Go.Proofs.Tryz.func55 rfl (by kernel_rfl) (m := 7) rfl]; simp only [sims, core, pe, Nat.reduceAdd, Int.reduceBEq, Int.reduceBNe, Int.reduceLT, Int.reduceLE, Go.Proofs.Tryz.f55, fx_55, e1 _, e2 _, nameB]
theorem con_c (made : Bool) (s : Str) (hs : s.length ≤ lenTop) : Ret C 57 [fieldA made, .str s] (.bool (conB made s)) := by
  refine Ret.mk rfl rfl ?_
  have e1 := bare_c made s hs
  have e2 := isCon_c (bareB made s) (bareB_small made s hs)
  unfold fieldA at *
  rw [C_fn rfl Go.Proofs.Tryz.func57 rfl (by kernel_rfl) (m := 7) rfl]; simp only [sims, core, pe, Nat.reduceAdd, Int.reduceBEq, Int.reduceBNe, Int.reduceLT, Int.reduceLE, Go.Proofs.Tryz.f57, fx_57, e1 _, e2 _, conB]
end Go.Ab
/- What an op asks for. -/
namespace Go.Ab
open Go Go.Ab.Tab
set_option maxRecDepth 100000
set_option maxHeartbeats 4000000
set_option linter.unusedSimpArgs false
def str (s : String) : Str := s.toUTF8.data.toList
def unL : List Str := [[110, 111, 116], [45]]
def binL : List Str := [[43], [45], [42], [47], [37], [60], [60, 61], [61], [60, 62], [97, 110, 100], [111, 114]]
abbrev wantsA (name n cons : AVal) (least most kids many : Int) (am : Bool) : AVal :=
  .agg [name, n, cons, .int .i64 least, .int .i64 most, .int .i64 kids, .int .i64 many, .bool am]
abbrev fName (made : Bool) : AVal := .func 55 [fieldA made] []
abbrev fCon (made : Bool) : AVal := .func 57 [fieldA made] []
abbrev OfR (made : Bool) (op : Int) (w : AVal) : Prop := Ret C 163 [fieldA made, .int .i64 op] (.tuple [w, .bool true])
theorem of_1 (made : Bool) : OfR made 1 (wantsA .nilf (.func 173 [] []) .nilf 0 0 0 0 false) := by cases made <;> exact Ret.mk rfl rfl (C_of (n := 6) (by kernel_rfl))
theorem of_2 (made : Bool) : OfR made 2 (wantsA .nilf (.func 174 [] []) .nilf 0 0 0 0 false) := by cases made <;> exact Ret.mk rfl rfl (C_of (n := 6) (by kernel_rfl))
theorem of_3 (made : Bool) : OfR made 3 (wantsA (fCon made) .nilf .nilf 0 0 0 0 false) := by cases made <;> exact Ret.mk rfl rfl (C_of (n := 6) (by kernel_rfl))
theorem of_4 (made : Bool) : OfR made 4 (wantsA (fName made) .nilf .nilf 0 0 0 0 false) := by cases made <;> exact Ret.mk rfl rfl (C_of (n := 6) (by kernel_rfl))
theorem of_7 (made : Bool) : OfR made 7 (wantsA .nilf .nilf .nilf 0 0 3 3 false) := by cases made <;> exact Ret.mk rfl rfl (C_of (n := 6) (by kernel_rfl))
theorem of_8 (made : Bool) : OfR made 8 (wantsA .nilf .nilf .nilf 0 0 2 2 false) := by cases made <;> exact Ret.mk rfl rfl (C_of (n := 6) (by kernel_rfl))
theorem of_9 (made : Bool) : OfR made 9 (wantsA .nilf .nilf .nilf 0 0 1 1 false) := by cases made <;> exact Ret.mk rfl rfl (C_of (n := 6) (by kernel_rfl))
theorem of_10 (made : Bool) : OfR made 10 (wantsA .nilf .nilf .nilf 0 0 2 2 false) := by cases made <;> exact Ret.mk rfl rfl (C_of (n := 6) (by kernel_rfl))
theorem of_11 (made : Bool) : OfR made 11 (wantsA (fName made) .nilf (fCon made) 1 1 1 1 false) := by cases made <;> exact Ret.mk rfl rfl (C_of (n := 6) (by kernel_rfl))
theorem of_12 (made : Bool) : OfR made 12 (wantsA (fName made) .nilf (fCon made) 1 8 1 8 true) := by cases made <;> exact Ret.mk rfl rfl (C_of (n := 6) (by kernel_rfl))
theorem of_13 (made : Bool) : OfR made 13 (wantsA (fName made) .nilf (fCon made) 1 8 1 8 true) := by cases made <;> exact Ret.mk rfl rfl (C_of (n := 6) (by kernel_rfl))
theorem of_14 (made : Bool) : OfR made 14 (wantsA (fName made) .nilf (fName made) 0 6 1 6 false) := by cases made <;> exact Ret.mk rfl rfl (C_of (n := 6) (by kernel_rfl))
theorem of_15 (made : Bool) : OfR made 15 (wantsA .nilf .nilf .nilf 0 0 2 2 false) := by cases made <;> exact Ret.mk rfl rfl (C_of (n := 6) (by kernel_rfl))
theorem of_none (made : Bool) (op : Int) (h : ∀ i ∈ [1, 2, 3, 4, 5, 6, 7, 8, 9, 10, 11, 12, 13, 14, 15], op ≠ i) : Ret C 163 [fieldA made, .int .i64 op] (.tuple [wantsA .nilf .nilf .nilf 0 0 0 0 false, .bool false]) := by
  have hb : ∀ i ∈ [1, 2, 3, 4, 5, 6, 7, 8, 9, 10, 11, 12, 13, 14, 15], (op == i) = false := fun i hi => beq_false_of_ne (h i hi)
  simp only [List.forall_mem_cons] at hb
  obtain ⟨h1, h2, h3, h4, h5, h6, h7, h8, h9, h10, h11, h12, h13, h14, h15, -⟩ := hb
  refine Ret.mk rfl rfl ?_
  rw [C_fn rfl Go.Proofs.Tryz.func163 rfl (by kernel_rfl) (m := 65) rfl]; simp only [sims, core, pe, Nat.reduceAdd, Int.reduceBEq, Int.reduceBNe, Int.reduceLT, Int.reduceLE, Go.Proofs.Tryz.f163, fx_163, fieldA, h1, h2, h3, h4, h5, h6, h7, h8, h9, h10, h11, h12, h13, h14, h15]
  rfl
abbrev oneW (b : Nat) (k : Int) : AVal := wantsA (.func 178 [] [.ptr b 0]) .nilf .nilf 0 0 k k false
theorem of_5 (made : Bool) : C 163 [fieldA made, .int .i64 5] [] = some (.ret (.tuple [oneW 2 1, .bool true]) (.heap [.box [.bool made], .box (oneW 2 1).cells, .box [.slice (unL.map fun s => [.str s]) .full]] [])) := by
  cases made <;> exact C_of (n := 6) (by kernel_rfl)
theorem of_6 (made : Bool) : C 163 [fieldA made, .int .i64 6] [] = some (.ret (.tuple [oneW 2 2, .bool true]) (.heap [.box [.bool made], .box (oneW 2 2).cells, .box [.slice (binL.map fun s => [.str s]) .full]] [])) := by
  cases made <;> exact C_of (n := 6) (by kernel_rfl)
end Go.Ab
