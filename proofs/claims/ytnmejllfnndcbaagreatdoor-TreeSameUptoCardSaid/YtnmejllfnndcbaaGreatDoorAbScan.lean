/- Names, constructors and words. -/
import Derived.Test.YtnmejllfnndcbaaGreatDoorAbSize
import Derived.Test.YtnmejllfnndcbaaGreatDoorAbTypes
import Derived.Test.YtnmejllfnndcbaaGreatDoorAbIdx
set_option linter.unusedSimpArgs false
set_option linter.unusedVariables false
namespace Go.Ab
open Go Go.Ab.Tab
set_option maxRecDepth 100000
set_option maxHeartbeats 4000000
set_option linter.unusedSimpArgs false
def lowerB (z : Int) : Bool := decide (97 ≤ z) && decide (z ≤ 122)
def upperB (z : Int) : Bool := decide (65 ≤ z) && decide (z ≤ 90)
def digitB (z : Int) : Bool := decide (48 ≤ z) && decide (z ≤ 57)
def innerB (z : Int) : Bool := lowerB z || upperB z || digitB z || z == 95
theorem lower_c (z : Int) : Ret C 86 [.int .u8 z] (.bool (lowerB z)) := by
  refine Ret.mk rfl rfl ?_
  rw [C_fn rfl Go.Proofs.Tryz.func86 rfl (by kernel_rfl) (m := 8) rfl]; simp only [sims, core, pe, Nat.reduceAdd, Int.reduceBEq, Int.reduceBNe, Int.reduceLT, Int.reduceLE, Go.Proofs.Tryz.f86, fx_86, lowerB]
  cases h : decide (97 ≤ z) <;> simp only [sims, core, pe, Nat.reduceAdd, Int.reduceBEq, Int.reduceBNe, Int.reduceLT, Int.reduceLE, h]
theorem upper_c (z : Int) : Ret C 87 [.int .u8 z] (.bool (upperB z)) := by
  refine Ret.mk rfl rfl ?_
  rw [C_fn rfl Go.Proofs.Tryz.func87 rfl (by kernel_rfl) (m := 8) rfl]; simp only [sims, core, pe, Nat.reduceAdd, Int.reduceBEq, Int.reduceBNe, Int.reduceLT, Int.reduceLE, Go.Proofs.Tryz.f87, fx_87, upperB]
  cases h : decide (65 ≤ z) <;> simp only [sims, core, pe, Nat.reduceAdd, Int.reduceBEq, Int.reduceBNe, Int.reduceLT, Int.reduceLE, h]
theorem digit_c (z : Int) : Ret C 84 [.int .u8 z] (.bool (digitB z)) := by
  refine Ret.mk rfl rfl ?_
  rw [C_fn rfl Go.Proofs.Tryz.func84 rfl (by kernel_rfl) (m := 8) rfl]; simp only [sims, core, pe, Nat.reduceAdd, Int.reduceBEq, Int.reduceBNe, Int.reduceLT, Int.reduceLE, Go.Proofs.Tryz.f84, fx_84, digitB]
  cases h : decide (48 ≤ z) <;> simp only [sims, core, pe, Nat.reduceAdd, Int.reduceBEq, Int.reduceBNe, Int.reduceLT, Int.reduceLE, h]
theorem inner_c (z : Int) : Ret C 118 [.int .u8 z] (.bool (innerB z)) := by
  refine Ret.mk rfl rfl ?_
  have e1 := lower_c z
  have e2 := upper_c z
  have e3 := digit_c z
  rw [C_fn rfl Go.Proofs.Tryz.func118 rfl (by kernel_rfl) (m := 16) rfl]; simp only [sims, core, pe, Nat.reduceAdd, Int.reduceBEq, Int.reduceBNe, Int.reduceLT, Int.reduceLE, Go.Proofs.Tryz.f118, fx_118, e1 _, innerB]
  cases h : lowerB z
  · cases h2 : upperB z
    · cases h3 : digitB z <;> simp only [sims, core, pe, Nat.reduceAdd, Int.reduceBEq, Int.reduceBNe, Int.reduceLT, Int.reduceLE, h, h2, h3, e2 _, e3 _]
    · simp only [sims, core, pe, Nat.reduceAdd, Int.reduceBEq, Int.reduceBNe, Int.reduceLT, Int.reduceLE, h, h2, e2 _]
  · simp only [sims, core, pe, Nat.reduceAdd, Int.reduceBEq, Int.reduceBNe, Int.reduceLT, Int.reduceLE, h]
def spanN (p : Int → Bool) : Str → Nat
  | [] => 0
  | c :: r => if p c.toNat then spanN p r + 1 else 0
theorem spanN_le (p : Int → Bool) : ∀ s : Str, spanN p s ≤ s.length
  | [] => Nat.le_refl _
  | c :: r => by
    have := spanN_le p r
    simp only [spanN, List.length_cons]
    split <;> omega
theorem span_c (p : Int → Bool) (f : FuncId) (hp : ∀ z, Ret C f [.int .u8 z] (.bool (p z))) (s : Str) (hs : s.length ≤ lenTop) : Ret C 79 [.str s, .func f [] []] (.int .i64 (spanN p s)) := by
  refine Ret.mk rfl rfl ?_
  rw [C_fn rfl Go.Proofs.Tryz.func79 rfl (by kernel_rfl) (m := 19) rfl]; simp only [sims, core, pe, Nat.reduceAdd, Int.reduceBEq, Int.reduceBNe, Int.reduceLT, Int.reduceLE, Go.Proofs.Tryz.f79, fx_79, hs]
  generalize hb : codeB PP cmp0 C lpC _ = f; generalize hl : lpC f _ = r
  obtain ⟨ex, s', rfl, h2⟩ := lpC_at (α := Nat) hl [4, 5, 9, 10, 11, 12, 13, 14, 15, 16, 17, 18] (fun i => [(8, .int .i64 i)]) (fun i => i ≤ s.length) (fun i => s.length - i) (fun i => i + spanN p (s.drop i))
    (fun ts H r ex st => (ex = .exit 0 ∧ r = s.length ∧ At [4, 5, 8, 9, 10, 11, 12, 13, 14, 15, 16, 17, 18] ts H [] st) ∨ (ex = .ret ∧ At [5, 8, 9, 10, 11, 12, 13, 14, 15, 16, 17, 18] ts H [(4, .int .i64 r)] st)) 0 (Nat.zero_le _) (by simp only [At, ats, Int.natCast_zero]) (by
      intro i j H d hi
      clear hl; subst hb
      by_cases hlt : i < s.length
      · have e1 : ((i : Int) < (s.length : Int)) := by omega
        have e3 : s[i]? = some s[i] := by simp [hlt]
        have e5 := hp s[i].toNat
        simp only [sims, core, pe, Nat.reduceAdd, Int.reduceBEq, Int.reduceBNe, Int.reduceLT, Int.reduceLE, fx_79, e1, e3, e5 _]
        cases hc : p s[i].toNat
        · simp only [sims, core, pe, Nat.reduceAdd, Int.reduceBEq, Int.reduceBNe, Int.reduceLT, Int.reduceLE]
          exact .inr ⟨_, _, rfl, by simp, .inr ⟨rfl, by simp only [List.drop_eq_getElem_cons hlt, spanN, hc, At, ats]; rfl⟩⟩
        · simp only [sims, core, pe, Nat.reduceAdd, Int.reduceBEq, Int.reduceBNe, Int.reduceLT, Int.reduceLE, wrap_nat (show i ≤ lenTop by omega)]
          exact .inl ⟨i + 1, _, rfl, hlt, by simp only [At, ats, Int.natCast_zero], by simp only []; omega, by simp only [List.drop_eq_getElem_cons hlt, spanN, hc, if_true]; omega⟩
      · have e1 : ¬ ((i : Int) < (s.length : Int)) := by omega
        simp only [sims, core, pe, Nat.reduceAdd, Int.reduceBEq, Int.reduceBNe, Int.reduceLT, Int.reduceLE, fx_79, e1]
        exact .inr ⟨_, _, rfl, by simp, .inl ⟨rfl, by simp only []; rw [List.drop_eq_nil_of_le (by omega)]; simp only [spanN]; omega, by simp only [At, ats, Int.natCast_zero]⟩⟩)
  rw [List.drop_zero, Nat.zero_add] at h2
  rcases h2 with ⟨rfl, hr, h2⟩ | ⟨rfl, h2⟩
  · obtain ⟨j, H, d, rfl⟩ := h2.elim
    clear hl
    simp only [sims, core, pe, Nat.reduceAdd, Int.reduceBEq, Int.reduceBNe, Int.reduceLT, Int.reduceLE, fx_79, hr, hs]
  · obtain ⟨j, H, d, rfl⟩ := h2.elim
    clear hl
    simp only [sims, core, pe, Nat.reduceAdd, Int.reduceBEq, Int.reduceBNe, Int.reduceLT, Int.reduceLE]
def wordL : List Str := [[116, 121, 112, 101], [110, 111, 100, 101], [119, 104, 101, 114, 101], [101, 110, 100], [97, 117, 116, 111, 109, 97, 116, 111, 110], [115, 116, 97, 116, 101], [117, 110, 116, 105, 108], [116, 104, 101, 110], [105, 102], [101, 108, 115, 101], [102, 98, 121], [112, 114, 101], [110, 111, 116], [97, 110, 100], [111, 114], [119, 104, 101, 110], [109, 101, 114, 103, 101], [109, 97, 116, 99, 104], [101, 118, 101, 114, 121], [116, 114, 117, 101], [102, 97, 108, 115, 101]]
theorem words_c : Ret C 147 [] (encStrs wordL) := Ret.mk rfl rfl (C_of (n := 5) (by kernel_rfl))
theorem rwords_c : Ret C 133 [] (encStrs wordL) := Ret.mk rfl rfl (C_of (n := 5) (by kernel_rfl))
def idxN (s : Str) : List Str → Nat → Int
  | [], _ => -1
  | x :: r, i => if s == x then (i : Int) else idxN s r (i + 1)
theorem idxN_has (s : Str) : ∀ (l : List Str) (i : Nat), decide (0 ≤ idxN s l i) = l.any (s == ·)
  | [], i => by simp [idxN]
  | x :: r, i => by
    by_cases h : (s == x) = true
    · simp only [idxN, List.any_cons, h, if_true, Bool.true_or]
      exact decide_eq_true (Int.natCast_nonneg i)
    · have h' : (s == x) = false := by simpa using h
      simp only [idxN, List.any_cons, h', Bool.false_or]
      exact idxN_has s r (i + 1)
theorem index_c (l : List Str) (s : Str) (hl : l.length ≤ lenTop) : Ret C 162 [encStrs l, .str s] (.int .i64 (idxN s l 0)) := by
  refine Ret.mk rfl rfl ?_
  rw [C_fn rfl Go.Proofs.Tryz.func162 rfl (by kernel_rfl) (m := 17) rfl]; simp only [sims, core, pe, Nat.reduceAdd, Int.reduceBEq, Int.reduceBNe, Int.reduceLT, Int.reduceLE, Go.Proofs.Tryz.f162, fx_162, encStrs]
  generalize hb : codeB PP cmp0 C lpC _ = f; generalize hl0 : lpC f _ = r
  obtain ⟨ex, s', rfl, h2⟩ := lpC_at (α := Nat) hl0 [4, 5, 9, 10, 11, 12, 13, 14, 15, 16, 17, 18] (fun i => [(8, .int .i64 i)]) (fun i => i ≤ l.length) (fun i => l.length - i) (fun i => idxN s (l.drop i) i)
    (fun ts H r ex st => (ex = .exit 0 ∧ r = -1 ∧ At [4, 5, 8, 9, 10, 11, 12, 13, 14, 15, 16, 17, 18] ts H [] st) ∨ (ex = .ret ∧ At [5, 8, 9, 10, 11, 12, 13, 14, 15, 16, 17, 18] ts H [(4, .int .i64 r)] st)) 0 (Nat.zero_le _) (by simp only [At, ats, Int.natCast_zero]) (by
      intro i j H d hi
      clear hl0; subst hb
      by_cases hlt : i < l.length
      · have e1 : ((i : Int) < (l.length : Int)) := by omega
        have e3 := strs_get l i hlt
        simp only [sims, core, pe, Nat.reduceAdd, Int.reduceBEq, Int.reduceBNe, Int.reduceLT, Int.reduceLE, fx_162, e1, e3]
        cases hc : s == l[i]
        · simp only [sims, core, pe, Nat.reduceAdd, Int.reduceBEq, Int.reduceBNe, Int.reduceLT, Int.reduceLE, wrap_nat (show i ≤ lenTop by omega)]
          exact .inl ⟨i + 1, _, rfl, hlt, by simp only [At, ats, Int.natCast_zero], by simp only []; omega, by simp only [List.drop_eq_getElem_cons hlt, idxN, hc]; rfl⟩
        · simp only [sims, core, pe, Nat.reduceAdd, Int.reduceBEq, Int.reduceBNe, Int.reduceLT, Int.reduceLE]
          exact .inr ⟨_, _, rfl, by simp, .inr ⟨rfl, by simp only [List.drop_eq_getElem_cons hlt, idxN, hc, if_true, At, ats]⟩⟩
      · have e1 : ¬ ((i : Int) < (l.length : Int)) := by omega
        simp only [sims, core, pe, Nat.reduceAdd, Int.reduceBEq, Int.reduceBNe, Int.reduceLT, Int.reduceLE, fx_162, e1]
        exact .inr ⟨_, _, rfl, by simp, .inl ⟨rfl, by simp only []; rw [List.drop_eq_nil_of_le (by omega)]; rfl, by simp only [At, ats, Int.natCast_zero]⟩⟩)
  rw [List.drop_zero] at h2
  rcases h2 with ⟨rfl, hr, h2⟩ | ⟨rfl, h2⟩
  · obtain ⟨j, H, d, rfl⟩ := h2.elim
    clear hl0
    simp only [sims, core, pe, Nat.reduceAdd, Int.reduceBEq, Int.reduceBNe, Int.reduceLT, Int.reduceLE, hr]
  · obtain ⟨j, H, d, rfl⟩ := h2.elim
    clear hl0
    simp only [sims, core, pe, Nat.reduceAdd, Int.reduceBEq, Int.reduceBNe, Int.reduceLT, Int.reduceLE]
theorem contains_c (l : List Str) (s : Str) (hl : l.length ≤ lenTop) : Ret C 146 [encStrs l, .str s] (.bool (l.any (s == ·))) := by
  refine Ret.mk rfl rfl ?_
  have e1 := index_c l s hl
  rw [C_fn rfl Go.Proofs.Tryz.func146 rfl (by kernel_rfl) (m := 7) rfl]; simp only [sims, core, pe, Nat.reduceAdd, Int.reduceBEq, Int.reduceBNe, Int.reduceLT, Int.reduceLE, Go.Proofs.Tryz.f146, fx_146, e1 _, idxN_has]
theorem isWord_c (s : Str) : Ret C 119 [.str s] (.bool (wordL.any (s == ·))) := by
  refine Ret.mk rfl rfl ?_
  have e0 := words_c
  have e1 := contains_c wordL s (by decide)
  rw [C_fn rfl Go.Proofs.Tryz.func119 rfl (by kernel_rfl) (m := 5) rfl]; simp only [sims, core, pe, Nat.reduceAdd, Int.reduceBEq, Int.reduceBNe, Int.reduceLT, Int.reduceLE, Go.Proofs.Tryz.f119, fx_119, e0 _, e1 _]
def shapedB (p : Int → Bool) : Str → Bool
  | [] => false
  | c :: r => decide ((c :: r).length ≤ 24) && p c.toNat && (spanN innerB (c :: r) == (c :: r).length)
theorem int_dec (a b : Nat) : decide ((a : Int) ≤ (b : Int)) = decide (a ≤ b) := by
  by_cases h : a ≤ b
  · rw [decide_eq_true h, decide_eq_true (by omega)]
  · rw [decide_eq_false h, decide_eq_false (by omega)]
theorem int_beq (a b : Nat) : ((a : Int) == (b : Int)) = (a == b) := by
  by_cases h : a = b
  · subst h; simp
  · have h1 : ((a : Int) == (b : Int)) = false := by simp; omega
    have h2 : (a == b) = false := by simpa using h
    rw [h1, h2]
theorem shaped_c (p : Int → Bool) (f : FuncId) (hp : ∀ z, Ret C f [.int .u8 z] (.bool (p z))) (s : Str) (hs : s.length ≤ lenTop) : Ret C 122 [.str s, .func f [] []] (.bool (shapedB p s)) := by
  refine Ret.mk rfl rfl ?_
  have e1 := span_c innerB 118 inner_c s hs
  cases s with
  | nil => rw [C_fn rfl Go.Proofs.Tryz.func122 rfl (by kernel_rfl) (m := 23) rfl]; simp only [sims, core, pe, Nat.reduceAdd, Int.reduceBEq, Int.reduceBNe, Int.reduceLT, Int.reduceLE, Go.Proofs.Tryz.f122, fx_122, shapedB]
  | cons c r =>
    have e2 := hp c.toNat
    have e3 : ((c :: r) == ([] : Str)) = false := rfl
    have e4 : decide (((r.length + 1 : Nat) : Int) ≤ 24) = decide (r.length + 1 ≤ 24) := int_dec (r.length + 1) 24
    have e5 := int_beq (spanN innerB (c :: r)) (c :: r).length
    have hs' := hs
    simp only [List.length_cons] at e5 hs'
    rw [C_fn rfl Go.Proofs.Tryz.func122 rfl (by kernel_rfl) (m := 23) rfl]; simp only [sims, core, pe, Nat.reduceAdd, Int.reduceBEq, Int.reduceBNe, Int.reduceLT, Int.reduceLE, Go.Proofs.Tryz.f122, fx_122, e3, e4, shapedB, hs', hs]
    cases h1 : decide (r.length ≤ 23)
    · simp only [sims, core, pe, Nat.reduceAdd, Int.reduceBEq, Int.reduceBNe, Int.reduceLT, Int.reduceLE, fx_122, h1]
    cases h2 : p c.toNat
    · simp only [sims, core, pe, Nat.reduceAdd, Int.reduceBEq, Int.reduceBNe, Int.reduceLT, Int.reduceLE, fx_122, h1, h2, e2 _]
    · simp only [sims, core, pe, Nat.reduceAdd, Int.reduceBEq, Int.reduceBNe, Int.reduceLT, Int.reduceLE, fx_122, h1, h2, e2 _, e1 _, hs', e5]
def isNameB (s : Str) : Bool := shapedB lowerB s && !(wordL.any (s == ·))
def isConB (s : Str) : Bool := shapedB upperB s
theorem isName_c (s : Str) (hs : s.length ≤ lenTop) : Ret C 92 [.str s] (.bool (isNameB s)) := by
  refine Ret.mk rfl rfl ?_
  have e1 := shaped_c lowerB 86 lower_c s hs
  have e2 := isWord_c s
  rw [C_fn rfl Go.Proofs.Tryz.func92 rfl (by kernel_rfl) (m := 9) rfl]; simp only [sims, core, pe, Nat.reduceAdd, Int.reduceBEq, Int.reduceBNe, Int.reduceLT, Int.reduceLE, Go.Proofs.Tryz.f92, fx_92, e1 _, isNameB]
  cases h1 : shapedB lowerB s
  · simp only [sims, core, pe, Nat.reduceAdd, Int.reduceBEq, Int.reduceBNe, Int.reduceLT, Int.reduceLE, fx_92, h1]
  · simp only [sims, core, pe, Nat.reduceAdd, Int.reduceBEq, Int.reduceBNe, Int.reduceLT, Int.reduceLE, fx_92, h1, e2 _]
theorem isCon_c (s : Str) (hs : s.length ≤ lenTop) : Ret C 96 [.str s] (.bool (isConB s)) := by
  refine Ret.mk rfl rfl ?_
  have e1 := shaped_c upperB 87 upper_c s hs
  rw [C_fn rfl Go.Proofs.Tryz.func96 rfl (by kernel_rfl) (m := 4) rfl]; simp only [sims, core, pe, Nat.reduceAdd, Int.reduceBEq, Int.reduceBNe, Int.reduceLT, Int.reduceLE, Go.Proofs.Tryz.f96, fx_96, e1 _, isConB]
end Go.Ab
/- Names, constructors and words, by the reference. -/
namespace Go.Ab
open Go Go.Ab.Tab
set_option maxRecDepth 100000
set_option maxHeartbeats 4000000
set_option linter.unusedSimpArgs false
theorem small_c (z : Int) : Ret C 130 [.int .u8 z] (.bool (lowerB z)) := by
  refine Ret.mk rfl rfl ?_
  rw [C_fn rfl Go.Proofs.Tryz.func130 rfl (by kernel_rfl) (m := 8) rfl]; simp only [sims, core, pe, Nat.reduceAdd, Int.reduceBEq, Int.reduceBNe, Int.reduceLT, Int.reduceLE, Go.Proofs.Tryz.f130, fx_130, lowerB]
  cases h : decide (97 ≤ z) <;> simp only [sims, core, pe, Nat.reduceAdd, Int.reduceBEq, Int.reduceBNe, Int.reduceLT, Int.reduceLE, h]
theorem great_c (z : Int) : Ret C 154 [.int .u8 z] (.bool (upperB z)) := by
  refine Ret.mk rfl rfl ?_
  rw [C_fn rfl Go.Proofs.Tryz.func154 rfl (by kernel_rfl) (m := 8) rfl]; simp only [sims, core, pe, Nat.reduceAdd, Int.reduceBEq, Int.reduceBNe, Int.reduceLT, Int.reduceLE, Go.Proofs.Tryz.f154, fx_154, upperB]
  cases h : decide (65 ≤ z) <;> simp only [sims, core, pe, Nat.reduceAdd, Int.reduceBEq, Int.reduceBNe, Int.reduceLT, Int.reduceLE, h]
theorem rdigit_c (z : Int) : Ret C 167 [.int .u8 z] (.bool (digitB z)) := by
  refine Ret.mk rfl rfl ?_
  rw [C_fn rfl Go.Proofs.Tryz.func167 rfl (by kernel_rfl) (m := 8) rfl]; simp only [sims, core, pe, Nat.reduceAdd, Int.reduceBEq, Int.reduceBNe, Int.reduceLT, Int.reduceLE, Go.Proofs.Tryz.f167, fx_167, digitB]
  cases h : decide (48 ≤ z) <;> simp only [sims, core, pe, Nat.reduceAdd, Int.reduceBEq, Int.reduceBNe, Int.reduceLT, Int.reduceLE, h]
theorem more_c (z : Int) : Ret C 153 [.int .u8 z] (.bool (innerB z)) := by
  refine Ret.mk rfl rfl ?_
  have e1 := small_c z
  have e2 := great_c z
  have e3 := rdigit_c z
  rw [C_fn rfl Go.Proofs.Tryz.func153 rfl (by kernel_rfl) (m := 16) rfl]; simp only [sims, core, pe, Nat.reduceAdd, Int.reduceBEq, Int.reduceBNe, Int.reduceLT, Int.reduceLE, Go.Proofs.Tryz.f153, fx_153, e1 _, innerB]
  cases h : lowerB z
  · cases h2 : upperB z
    · cases h3 : digitB z <;> simp only [sims, core, pe, Nat.reduceAdd, Int.reduceBEq, Int.reduceBNe, Int.reduceLT, Int.reduceLE, h, h2, h3, e2 _, e3 _]
    · simp only [sims, core, pe, Nat.reduceAdd, Int.reduceBEq, Int.reduceBNe, Int.reduceLT, Int.reduceLE, h, h2, e2 _]
  · simp only [sims, core, pe, Nat.reduceAdd, Int.reduceBEq, Int.reduceBNe, Int.reduceLT, Int.reduceLE, h]
theorem run_c (s : Str) (hs : s.length ≤ lenTop) : Ret C 131 [.str s] (.int .i64 (spanN innerB s)) := by
  refine Ret.mk rfl rfl ?_
  rw [C_fn rfl Go.Proofs.Tryz.func131 rfl (by kernel_rfl) (m := 16) rfl]; simp only [sims, core, pe, Nat.reduceAdd, Int.reduceBEq, Int.reduceBNe, Int.reduceLT, Int.reduceLE, Go.Proofs.Tryz.f131, fx_131, hs]
  generalize hb : codeB PP cmp0 C lpC _ = f; generalize hl : lpC f _ = r
  obtain ⟨ex, s', rfl, rfl, h2⟩ := lpC_at (α := Nat) hl [4, 5, 6, 7, 8, 9, 10, 11, 12, 13, 14, 15] (fun i => [(3, .int .i64 i)]) (fun i => i ≤ s.length) (fun i => s.length - i) (fun i => i + spanN innerB (s.drop i))
    (fun ts H r ex st => ex = .exit 0 ∧ At [4, 5, 6, 7, 8, 9, 10, 11, 12, 13, 14, 15] ts H [(3, .int .i64 r)] st) 0 (Nat.zero_le _) (by simp only [At, ats, Int.natCast_zero]) (by
      intro i j H d hi
      clear hl; subst hb
      by_cases hlt : i < s.length
      · have e1 : ((i : Int) < (s.length : Int)) := by omega
        have e3 : s[i]? = some s[i] := by simp [hlt]
        have e5 := more_c s[i].toNat
        simp only [sims, core, pe, Nat.reduceAdd, Int.reduceBEq, Int.reduceBNe, Int.reduceLT, Int.reduceLE, fx_131, hs, e1, e3, e5 _]
        cases hc : innerB s[i].toNat
        · simp only [sims, core, pe, Nat.reduceAdd, Int.reduceBEq, Int.reduceBNe, Int.reduceLT, Int.reduceLE]
          exact .inr ⟨_, _, rfl, by simp, rfl, by simp only [List.drop_eq_getElem_cons hlt, spanN, hc, At, ats]; rfl⟩
        · simp only [sims, core, pe, Nat.reduceAdd, Int.reduceBEq, Int.reduceBNe, Int.reduceLT, Int.reduceLE, wrap_nat (show i ≤ lenTop by omega)]
          exact .inl ⟨i + 1, _, rfl, hlt, by simp only [At, ats, Int.natCast_zero], by simp only []; omega, by simp only [List.drop_eq_getElem_cons hlt, spanN, hc, if_true]; omega⟩
      · have e1 : ¬ ((i : Int) < (s.length : Int)) := by omega
        have e2 : i = s.length := by omega
        simp only [sims, core, pe, Nat.reduceAdd, Int.reduceBEq, Int.reduceBNe, Int.reduceLT, Int.reduceLE, fx_131, hs, e1]
        subst e2
        exact .inr ⟨_, _, rfl, by simp, rfl, by simp only [List.drop_length, spanN, Nat.add_zero, At, ats]⟩)
  rw [List.drop_zero, Nat.zero_add] at h2
  obtain ⟨j, H, d, rfl⟩ := h2.elim
  clear hl
  simp only [sims, core, pe, Nat.reduceAdd, Int.reduceBEq, Int.reduceBNe, Int.reduceLT, Int.reduceLE]
theorem has_c (l : List Str) (s : Str) (hl : l.length ≤ lenTop) : Ret C 132 [encStrs l, .str s] (.bool (l.any (· == s))) := by
  refine Ret.mk rfl rfl ?_
  rw [C_fn rfl Go.Proofs.Tryz.func132 rfl (by kernel_rfl) (m := 16) rfl]; simp only [sims, core, pe, Nat.reduceAdd, Int.reduceBEq, Int.reduceBNe, Int.reduceLT, Int.reduceLE, Go.Proofs.Tryz.f132, fx_132, encStrs]
  generalize hb : codeB PP cmp0 C lpC _ = f; generalize hl0 : lpC f _ = r
  obtain ⟨ex, s', rfl, h2⟩ := lpC_at (α := Nat) hl0 [4, 6, 7, 8, 9, 10, 11, 12, 13, 14, 15, 16, 17] (fun i => [(5, .int .i64 i)]) (fun i => i ≤ l.length) (fun i => l.length - i) (fun i => (l.drop i).any (· == s))
    (fun ts H r ex st => (r = false ∧ ex = .exit 0 ∧ At [4, 5, 6, 7, 8, 9, 10, 11, 12, 13, 14, 15, 16, 17] ts H [] st) ∨ (r = true ∧ ex = .ret ∧ At [5, 6, 7, 8, 9, 10, 11, 12, 13, 14, 15, 16, 17] ts H [(4, .bool true)] st)) 0 (Nat.zero_le _) (by simp only [At, ats, Int.natCast_zero]) (by
      intro i j H d hi
      clear hl0; subst hb
      by_cases hlt : i < l.length
      · have e1 : ((i : Int) < (l.length : Int)) := by omega
        have e3 := strs_get l i hlt
        simp only [sims, core, pe, Nat.reduceAdd, Int.reduceBEq, Int.reduceBNe, Int.reduceLT, Int.reduceLE, fx_132, e1, e3]
        cases hc : l[i] == s
        · simp only [sims, core, pe, Nat.reduceAdd, Int.reduceBEq, Int.reduceBNe, Int.reduceLT, Int.reduceLE, wrap_nat (show i ≤ lenTop by omega)]
          exact .inl ⟨i + 1, _, rfl, hlt, by simp only [At, ats, Int.natCast_zero], by simp only []; omega, by simp only [List.drop_eq_getElem_cons hlt, List.any_cons, hc, Bool.false_or]⟩
        · simp only [sims, core, pe, Nat.reduceAdd, Int.reduceBEq, Int.reduceBNe, Int.reduceLT, Int.reduceLE]
          exact .inr ⟨_, _, rfl, by simp, .inr ⟨by simp only [List.drop_eq_getElem_cons hlt, List.any_cons, hc, Bool.true_or], rfl, by simp only [At, ats, Int.natCast_zero]⟩⟩
      · have e1 : ¬ ((i : Int) < (l.length : Int)) := by omega
        simp only [sims, core, pe, Nat.reduceAdd, Int.reduceBEq, Int.reduceBNe, Int.reduceLT, Int.reduceLE, fx_132, e1]
        exact .inr ⟨_, _, rfl, by simp, .inl ⟨by simp only []; rw [List.drop_eq_nil_of_le (by omega)]; rfl, rfl, by simp only [At, ats, Int.natCast_zero]⟩⟩)
  rw [List.drop_zero] at h2
  rcases h2 with ⟨hr, rfl, h2⟩ | ⟨hr, rfl, h2⟩
  · obtain ⟨j, H, d, rfl⟩ := h2.elim
    clear hl0
    simp only [sims, core, pe, Nat.reduceAdd, Int.reduceBEq, Int.reduceBNe, Int.reduceLT, Int.reduceLE, hr]
  · obtain ⟨j, H, d, rfl⟩ := h2.elim
    clear hl0
    simp only [sims, core, pe, Nat.reduceAdd, Int.reduceBEq, Int.reduceBNe, Int.reduceLT, Int.reduceLE, hr]
theorem any_comm (l : List Str) (s : Str) : l.any (· == s) = l.any (s == ·) := by
  congr 1; funext x; exact Bool.beq_comm
theorem len0 : decide ((1 : Int) ≤ ((0 : Nat) : Int)) = false := by decide
theorem int_dec24 (n : Nat) : decide (((n + 1 : Nat) : Int) ≤ 24) = decide (n ≤ 23) := by
  by_cases h : n ≤ 23
  · rw [decide_eq_true h, decide_eq_true (by omega)]
  · rw [decide_eq_false h, decide_eq_false (by omega)]
theorem risName_c (s : Str) (hs : s.length ≤ lenTop) : Ret C 101 [.str s] (.bool (isNameB s)) := by
  refine Ret.mk rfl rfl ?_
  have e1 := run_c s hs
  have e6 := rwords_c
  have e7 := has_c wordL s (by decide)
  rw [any_comm] at e7
  cases s with
  | nil => rw [C_fn rfl Go.Proofs.Tryz.func101 rfl (by kernel_rfl) (m := 28) rfl]; simp only [sims, core, pe, Nat.reduceAdd, Int.reduceBEq, Int.reduceBNe, Int.reduceLT, Int.reduceLE, Go.Proofs.Tryz.f101, fx_101, isNameB, shapedB, len0]
  | cons c r =>
    have e2 := small_c c.toNat
    have e5 := int_beq (spanN innerB (c :: r)) (c :: r).length
    have e8 : decide (((1 : Int)) ≤ ((r.length + 1 : Nat) : Int)) = true := decide_eq_true (by omega)
    have hs' := hs
    simp only [List.length_cons] at e5 hs'
    rw [C_fn rfl Go.Proofs.Tryz.func101 rfl (by kernel_rfl) (m := 28) rfl]; simp only [sims, core, pe, Nat.reduceAdd, Int.reduceBEq, Int.reduceBNe, Int.reduceLT, Int.reduceLE, Go.Proofs.Tryz.f101, fx_101, isNameB, shapedB, int_dec24, hs', e8]
    cases h1 : decide (r.length ≤ 23)
    · simp only [sims, core, pe, Nat.reduceAdd, Int.reduceBEq, Int.reduceBNe, Int.reduceLT, Int.reduceLE, fx_101, h1]
    cases h2 : lowerB c.toNat
    · simp only [sims, core, pe, Nat.reduceAdd, Int.reduceBEq, Int.reduceBNe, Int.reduceLT, Int.reduceLE, fx_101, h1, h2, e2 _]
    cases h3 : spanN innerB (c :: r) == r.length + 1
    · simp only [sims, core, pe, Nat.reduceAdd, Int.reduceBEq, Int.reduceBNe, Int.reduceLT, Int.reduceLE, fx_101, h1, h2, h3, e2 _, e1 _, hs', e5]
    · simp only [sims, core, pe, Nat.reduceAdd, Int.reduceBEq, Int.reduceBNe, Int.reduceLT, Int.reduceLE, fx_101, h1, h2, h3, e2 _, e1 _, hs', e5, e6 _, e7 _]
theorem risCon_c (s : Str) (hs : s.length ≤ lenTop) : Ret C 134 [.str s] (.bool (isConB s)) := by
  refine Ret.mk rfl rfl ?_
  have e1 := run_c s hs
  cases s with
  | nil => rw [C_fn rfl Go.Proofs.Tryz.func134 rfl (by kernel_rfl) (m := 22) rfl]; simp only [sims, core, pe, Nat.reduceAdd, Int.reduceBEq, Int.reduceBNe, Int.reduceLT, Int.reduceLE, Go.Proofs.Tryz.f134, fx_134, isConB, shapedB, len0]
  | cons c r =>
    have e2 := great_c c.toNat
    have e5 := int_beq (spanN innerB (c :: r)) (c :: r).length
    have e8 : decide (((1 : Int)) ≤ ((r.length + 1 : Nat) : Int)) = true := decide_eq_true (by omega)
    have hs' := hs
    simp only [List.length_cons] at e5 hs'
    rw [C_fn rfl Go.Proofs.Tryz.func134 rfl (by kernel_rfl) (m := 22) rfl]; simp only [sims, core, pe, Nat.reduceAdd, Int.reduceBEq, Int.reduceBNe, Int.reduceLT, Int.reduceLE, Go.Proofs.Tryz.f134, fx_134, isConB, shapedB, int_dec24, hs', e8]
    cases h1 : decide (r.length ≤ 23)
    · simp only [sims, core, pe, Nat.reduceAdd, Int.reduceBEq, Int.reduceBNe, Int.reduceLT, Int.reduceLE, fx_134, h1]
    cases h2 : upperB c.toNat
    · simp only [sims, core, pe, Nat.reduceAdd, Int.reduceBEq, Int.reduceBNe, Int.reduceLT, Int.reduceLE, fx_134, h1, h2, e2 _]
    cases h3 : spanN innerB (c :: r) == r.length + 1
    · simp only [sims, core, pe, Nat.reduceAdd, Int.reduceBEq, Int.reduceBNe, Int.reduceLT, Int.reduceLE, fx_134, h1, h2, h3, e2 _, e1 _, hs', e5]
    · simp only [sims, core, pe, Nat.reduceAdd, Int.reduceBEq, Int.reduceBNe, Int.reduceLT, Int.reduceLE, fx_134, h1, h2, h3, e2 _, e1 _, hs', e5]
end Go.Ab
/- What may stand in fields. -/
namespace Go.Ab
open Go Go.Ab.Tab
set_option maxRecDepth 100000
set_option maxHeartbeats 4000000
set_option linter.unusedSimpArgs false
theorem all1_c (g : FuncId) (fst : List AVal) (s : Str) (b : Bool) (hp : Ret C g (fst ++ [.str s]) (.bool b)) :
    C 95 [.str s, .ptr 0 0] [.box [.func g fst []]] = some (.ret (.bool (!b)) .same) := by
  rw [C_fn rfl Go.Proofs.Tryz.func95 rfl (by kernel_rfl) (m := 6) rfl]; simp only [sims, core, pe, Nat.reduceAdd, Int.reduceBEq, Int.reduceBNe, Int.reduceLT, Int.reduceLE, Go.Proofs.Tryz.f95, fx_95, List.append_nil, hp _, leave_clean 1 _ _ [] (by simp)]
theorem int_ge (a : Nat) (m : Int) : decide (m ≤ (a : Int)) = decide (m ≤ a) := rfl
theorem all_c (l : List Str) (hl : l.length ≤ lenTop) (least most : Int) (g : FuncId) (fst : List AVal) (hf : refsL fst = []) (p : Str → Bool) (hp : ∀ x ∈ l, Ret C g (fst ++ [.str x]) (.bool (p x))) :
    Ret C 56 [encStrs l, .int .i64 least, .int .i64 most, .func g fst []] (.bool (decide (least ≤ l.length) && decide ((l.length : Int) ≤ most) && !l.any fun s => !p s)) := by
  refine Ret.mk (by simp [refsL, refs, hf, encStrs]) rfl ?_
  have e1 := contains_Str_c l hl 95 [.func g fst []] (by simp [refsL, refs, hf]) (fun s => !p s) (fun x hx H =>
    callA_box1 (b := 0) _ rfl rfl (by simp [refsL, refs, hf]) (all1_c g fst x (p x) (hp x hx)) rfl)
  have e2 : ∀ H, callA C (.box [.func g fst []] :: H) 94 [.slice (l.map fun s => [.str s]) .free, .func 95 [] [.ptr 0 0]] = some (.ret (.bool (l.any fun s => !p s)) .same) := fun H =>
    callA_box1 (b := 0) _ rfl rfl (by simp [refsL, refs, hf]) e1 rfl
  rw [C_fn rfl Go.Proofs.Tryz.func56 rfl (by kernel_rfl) (m := 21) rfl]; simp only [sims, core, pe, Nat.reduceAdd, Int.reduceBEq, Int.reduceBNe, Int.reduceLT, Int.reduceLE, Go.Proofs.Tryz.f56, fx_56, encStrs]
  cases h1 : decide (least ≤ (l.length : Int))
  · simp only [sims, core, pe, Nat.reduceAdd, Int.reduceBEq, Int.reduceBNe, Int.reduceLT, Int.reduceLE, fx_56, h1]
  cases h2 : decide ((l.length : Int) ≤ most)
  · simp only [sims, core, pe, Nat.reduceAdd, Int.reduceBEq, Int.reduceBNe, Int.reduceLT, Int.reduceLE, fx_56, h1, h2]
  · simp only [sims, core, pe, Nat.reduceAdd, Int.reduceBEq, Int.reduceBNe, Int.reduceLT, Int.reduceLE, fx_56, h1, h2, e2]
end Go.Ab
