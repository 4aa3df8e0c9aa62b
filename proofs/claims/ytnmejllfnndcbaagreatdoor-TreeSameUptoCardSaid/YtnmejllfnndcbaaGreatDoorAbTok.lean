/- The tokens that words are. -/
import Derived.Test.YtnmejllfnndcbaaGreatDoorAbScan
import Derived.Test.YtnmejllfnndcbaaGreatDoorAbExt
import Derived.Test.YtnmejllfnndcbaaGreatDoorAbTypes
set_option linter.unusedSimpArgs false
set_option linter.unusedVariables false
namespace Go.Ab
open Go Go.Ab.Tab
set_option maxRecDepth 100000
set_option maxHeartbeats 4000000
set_option linter.unusedSimpArgs false
def sortW : Str → Int
  | [] => 4
  | c :: r => if digitB c.toNat then 3 else if lowerB c.toNat || upperB c.toNat then (if wordL.any ((c :: r) == ·) then 5 else if upperB c.toNat then 2 else 1) else 4
def valN : Nat → Str → Nat
  | a, [] => a
  | a, c :: r => valN (10 * a + (c.toNat - 48)) r
def tokW (w : Str) : PTok := ⟨sortW w, w, if sortW w = 3 then (valN 0 w : Int) else 0, 0, 0⟩
def toks (l : List Str) : List PTok := l.map tokW
theorem toks_nil : toks [] = [] := rfl
theorem toks_cons (w : Str) (l : List Str) : toks (w :: l) = tokW w :: toks l := rfl
theorem toks_app (a b : List Str) : toks (a ++ b) = toks a ++ toks b := List.map_append
theorem lower_digit (z : Int) (h : lowerB z = true) : digitB z = false := by
  simp only [lowerB, Bool.and_eq_true, decide_eq_true_eq] at h
  simp only [digitB, Bool.and_eq_false_iff, decide_eq_false_iff_not]; omega
theorem lower_upper (z : Int) (h : lowerB z = true) : upperB z = false := by
  simp only [lowerB, Bool.and_eq_true, decide_eq_true_eq] at h
  simp only [upperB, Bool.and_eq_false_iff, decide_eq_false_iff_not]; omega
theorem upper_digit (z : Int) (h : upperB z = true) : digitB z = false := by
  simp only [upperB, Bool.and_eq_true, decide_eq_true_eq] at h
  simp only [digitB, Bool.and_eq_false_iff, decide_eq_false_iff_not]; omega
def firstLow : Str → Bool
  | [] => false
  | c :: _ => lowerB c.toNat
theorem words_low : ∀ x ∈ wordL, firstLow x = true := by decide
theorem upper_noword (c : UInt8) (r : Str) (h : upperB c.toNat = true) : wordL.any ((c :: r) == ·) = false := by
  cases hh : wordL.any ((c :: r) == ·) with
  | false => rfl
  | true =>
    rw [List.any_eq_true] at hh
    obtain ⟨x, hx, he⟩ := hh
    have := words_low x hx
    rw [← eq_of_beq he] at this
    have := lower_upper _ this
    rw [h] at this; cases this
theorem shaped_cons {p : Int → Bool} {w : Str} (h : shapedB p w = true) : ∃ c r, w = c :: r ∧ p c.toNat = true ∧ (c :: r).length ≤ 24 ∧ spanN innerB (c :: r) = (c :: r).length := by
  cases w with
  | nil => cases h
  | cons c r =>
    simp only [shapedB, Bool.and_eq_true, decide_eq_true_eq, beq_iff_eq] at h
    exact ⟨c, r, rfl, h.1.2, h.1.1, h.2⟩
theorem tok_name {w : Str} (h : isNameB w = true) : tokW w = ⟨1, w, 0, 0, 0⟩ := by
  simp only [isNameB, Bool.and_eq_true, Bool.not_eq_true'] at h
  obtain ⟨h1, h2⟩ := h
  obtain ⟨c, r, rfl, hc, _, _⟩ := shaped_cons h1
  have : sortW (c :: r) = 1 := by
    simp only [sortW, lower_digit _ hc, hc, h2, lower_upper _ hc, Bool.true_or, if_true, Bool.false_eq_true, if_false]
  simp only [tokW, this]; rfl
theorem tok_con {w : Str} (h : isConB w = true) : tokW w = ⟨2, w, 0, 0, 0⟩ := by
  obtain ⟨c, r, rfl, hc, _, _⟩ := shaped_cons h
  have : sortW (c :: r) = 2 := by
    simp only [sortW, upper_digit _ hc, hc, upper_noword c r hc, Bool.or_true, if_true, Bool.false_eq_true, if_false]
  simp only [tokW, this]; rfl
def allDig (s : Str) : Bool := s.all fun c => digitB c.toNat
theorem digit_ofNat (k : Nat) (h : k < 10) : (UInt8.ofNat (48 + k)).toNat = 48 + k := by
  simp [UInt8.toNat_ofNat']; omega
theorem digitB_of (k : Nat) (h : k < 10) : digitB ((UInt8.ofNat (48 + k)).toNat : Nat) = true := by
  rw [digit_ofNat k h]; simp only [digitB, Bool.and_eq_true, decide_eq_true_eq]; omega
theorem valN_app (a : Nat) (l m : Str) : valN a (l ++ m) = valN (valN a l) m := by
  induction l generalizing a with
  | nil => rfl
  | cons c r ih => exact ih _
theorem decN_succ (f n : Nat) : decN (f + 1) n = if n < 10 then [UInt8.ofNat (48 + n)] else decN f (n / 10) ++ [UInt8.ofNat (48 + n % 10)] := rfl
theorem val_one (k : Nat) (h : k < 10) (a : Nat) : valN a [UInt8.ofNat (48 + k)] = 10 * a + k := by
  show 10 * a + ((UInt8.ofNat (48 + k)).toNat - 48) = _
  rw [digit_ofNat k h]; omega
theorem dig_one (k : Nat) (h : k < 10) : allDig [UInt8.ofNat (48 + k)] = true := by
  show (digitB ((UInt8.ofNat (48 + k)).toNat : Nat) && true) = true
  rw [digitB_of k h]; rfl
theorem dig_app (a b : Str) : allDig (a ++ b) = (allDig a && allDig b) := List.all_append
theorem decN_dig (f : Nat) : ∀ n : Nat, n < 10 ^ f → allDig (decN f n) = true ∧ valN 0 (decN f n) = n ∧ (0 < f → decN f n ≠ []) := by
  induction f with
  | zero => intro n h; exact ⟨rfl, by rw [Nat.pow_zero] at h; show 0 = n; omega, fun h => absurd h (by omega)⟩
  | succ f ih =>
    intro n h
    rw [decN_succ]
    by_cases hn : n < 10
    · rw [if_pos hn]
      exact ⟨dig_one n hn, by rw [val_one n hn]; omega, fun _ => by simp⟩
    · rw [if_neg hn]
      have h10 : n / 10 < 10 ^ f := by
        rw [Nat.pow_succ] at h
        exact Nat.div_lt_of_lt_mul (by rw [Nat.mul_comm]; exact h)
      obtain ⟨h1, h2, _⟩ := ih (n / 10) h10
      have hm : n % 10 < 10 := Nat.mod_lt _ (by omega)
      refine ⟨by rw [dig_app, h1, dig_one _ hm]; rfl, ?_, fun _ => by simp⟩
      rw [valN_app, h2, val_one _ hm]; omega
theorem decB_pos {n : Int} (h0 : 0 ≤ n) (h1 : n ≤ 9223372036854775807) : allDig (decB n) = true ∧ (valN 0 (decB n) : Int) = n ∧ decB n ≠ [] := by
  unfold decB
  rw [if_neg (by omega)]
  have hp : (100000000000000000000 : Nat) = 10 ^ 20 := rfl
  obtain ⟨a, b, c⟩ := decN_dig 20 n.toNat (by rw [← hp]; omega)
  exact ⟨a, by rw [b]; omega, c (by omega)⟩
theorem tok_int {n : Int} (h0 : 0 ≤ n) (h1 : n ≤ 9223372036854775807) : tokW (decB n) = ⟨3, decB n, n, 0, 0⟩ := by
  obtain ⟨a, b, c⟩ := decB_pos h0 h1
  have : sortW (decB n) = 3 := by
    cases hh : decB n with
    | nil => exact absurd hh c
    | cons x r =>
      rw [hh] at a
      simp only [allDig, List.all_cons, Bool.and_eq_true] at a
      simp only [sortW, a.1, if_true]
  simp only [tokW, this, if_true, b]
theorem no_blank_inner (s : Str) (h : spanN innerB s = s.length) : ∀ c ∈ s, c ≠ 32 := by
  induction s with
  | nil => intro c hc; cases hc
  | cons d r ih =>
    simp only [spanN] at h
    split at h
    · rename_i hd
      intro c hc
      rcases List.mem_cons.1 hc with rfl | hc
      · intro e; subst e; revert hd; decide
      · exact ih (by simpa using h) c hc
    · simp at h
end Go.Ab
