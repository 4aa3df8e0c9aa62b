/- The tokens that words are. -/
import Derived.Test.YtnmejllfnndcbaaGreatDoorAbTypes
import Derived.Test.YtnmejllfnndcbaaGreatDoorAbExt
import Derived.Test.YtnmejllfnndcbaaGreatDoorAbSl
import Derived.Test.YtnmejllfnndcbaaGreatDoorAbExtP
set_option linter.unusedSimpArgs false
set_option linter.unusedVariables false
namespace Go.Ab
open Go Go.Ab.Tab
set_option maxRecDepth 100000
set_option maxHeartbeats 4000000
set_option linter.unusedSimpArgs false
def sortW : Str → Int
  | [] => 4
  | c :: r => if digitB c.toNat then 3 else if lowerB c.toNat || upperB c.toNat then (if wordL.any ((c :: r) == ·) then 5 else if upperB c.toNat then 2 else 1) else 4
def stpN (a : Nat) (c : UInt8) : Nat := 10 * a + (c.toNat - 48)
def valN (a : Nat) (s : Str) : Nat := s.foldl stpN a
theorem valN_nil (a : Nat) : valN a [] = a := rfl
theorem valN_cons (a : Nat) (c : UInt8) (r : Str) : valN a (c :: r) = valN (stpN a c) r := List.foldl_cons
def tokW (w : Str) : PTok := ⟨sortW w, w, if sortW w = 3 then (valN 0 w : Int) else 0, 0, 0⟩
def toks (l : List Str) : List PTok := l.map tokW
theorem toks_nil : toks [] = [] := rfl
theorem toks_cons (w : Str) (l : List Str) : toks (w :: l) = tokW w :: toks l := rfl
theorem toks_app (a b : List Str) : toks (a ++ b) = toks a ++ toks b := List.map_append
theorem lower_digit (z : Int) (h : lowerB z = true) : digitB z = false := by
  simp only [lowerB, Bool.and_eq_true, decide_eq_true_eq] at h
  simp only [digitB, Bool.and_eq_false_iff, decide_eq_false_iff_not]; omega
theorem lower_upper (z : Int) (h : lowerB z = true) : upperB z = false := by
  simp only [lowerB, Bool.and_eq_true, decide_eq_true_eq] at h
  simp only [upperB, Bool.and_eq_false_iff, decide_eq_false_iff_not]; omega
theorem upper_digit (z : Int) (h : upperB z = true) : digitB z = false := by
  simp only [upperB, Bool.and_eq_true, decide_eq_true_eq] at h
  simp only [digitB, Bool.and_eq_false_iff, decide_eq_false_iff_not]; omega
def firstLow : Str → Bool
  | [] => false
  | c :: _ => lowerB c.toNat
theorem words_low : ∀ x ∈ wordL, firstLow x = true := by decide
theorem upper_noword (c : UInt8) (r : Str) (h : upperB c.toNat = true) : wordL.any ((c :: r) == ·) = false := by
  cases hh : wordL.any ((c :: r) == ·) with
  | false => rfl
  | true =>
    rw [List.any_eq_true] at hh
    obtain ⟨x, hx, he⟩ := hh
    have := words_low x hx
    rw [← eq_of_beq he] at this
    have := lower_upper _ this
    rw [h] at this; cases this
theorem shaped_cons {p : Int → Bool} {w : Str} (h : shapedB p w = true) : ∃ c r, w = c :: r ∧ p c.toNat = true ∧ (c :: r).length ≤ 24 ∧ spanN innerB (c :: r) = (c :: r).length := by
  cases w with
  | nil => cases h
  | cons c r =>
    simp only [shapedB, Bool.and_eq_true, decide_eq_true_eq, beq_iff_eq] at h
    exact ⟨c, r, rfl, h.1.2, h.1.1, h.2⟩
theorem tok_name {w : Str} (h : isNameB w = true) : tokW w = ⟨1, w, 0, 0, 0⟩ := by
  simp only [isNameB, Bool.and_eq_true, Bool.not_eq_true'] at h
  obtain ⟨h1, h2⟩ := h
  obtain ⟨c, r, rfl, hc, _, _⟩ := shaped_cons h1
  have : sortW (c :: r) = 1 := by
    simp only [sortW, lower_digit _ hc, hc, h2, lower_upper _ hc, Bool.true_or, if_true, Bool.false_eq_true, if_false]
  simp only [tokW, this]; rfl
theorem tok_con {w : Str} (h : isConB w = true) : tokW w = ⟨2, w, 0, 0, 0⟩ := by
  obtain ⟨c, r, rfl, hc, _, _⟩ := shaped_cons h
  have : sortW (c :: r) = 2 := by
    simp only [sortW, upper_digit _ hc, hc, upper_noword c r hc, Bool.or_true, if_true, Bool.false_eq_true, if_false]
  simp only [tokW, this]; rfl
def allDig (s : Str) : Bool := s.all fun c => digitB c.toNat
theorem digit_ofNat (k : Nat) (h : k < 10) : (UInt8.ofNat (48 + k)).toNat = 48 + k := by
  simp [UInt8.toNat_ofNat']; omega
theorem digitB_of (k : Nat) (h : k < 10) : digitB ((UInt8.ofNat (48 + k)).toNat : Nat) = true := by
  rw [digit_ofNat k h]; simp only [digitB, Bool.and_eq_true, decide_eq_true_eq]; omega
theorem valN_app (a : Nat) (l m : Str) : valN a (l ++ m) = valN (valN a l) m := List.foldl_append
theorem decN_succ (f n : Nat) : decN (f + 1) n = if n < 10 then [UInt8.ofNat (48 + n)] else decN f (n / 10) ++ [UInt8.ofNat (48 + n % 10)] := rfl
theorem val_one (k : Nat) (h : k < 10) (a : Nat) : valN a [UInt8.ofNat (48 + k)] = 10 * a + k := by
  rw [valN_cons, valN_nil]
  unfold stpN
  rw [digit_ofNat k h]; omega
theorem dig_one (k : Nat) (h : k < 10) : allDig [UInt8.ofNat (48 + k)] = true := by
  show (digitB ((UInt8.ofNat (48 + k)).toNat : Nat) && true) = true
  rw [digitB_of k h]; rfl
theorem dig_app (a b : Str) : allDig (a ++ b) = (allDig a && allDig b) := List.all_append
theorem decN_dig (f : Nat) : ∀ n : Nat, n < 10 ^ f → allDig (decN f n) = true ∧ valN 0 (decN f n) = n ∧ (0 < f → decN f n ≠ []) := by
  induction f with
  | zero => intro n h; exact ⟨rfl, by rw [Nat.pow_zero] at h; show valN 0 [] = n; rw [valN_nil]; omega, fun h => absurd h (by omega)⟩
  | succ f ih =>
    intro n h
    rw [decN_succ]
    by_cases hn : n < 10
    · rw [if_pos hn]
      exact ⟨dig_one n hn, by rw [val_one n hn]; omega, fun _ => by simp⟩
    · rw [if_neg hn]
      have h10 : n / 10 < 10 ^ f := by
        rw [Nat.pow_succ] at h
        exact Nat.div_lt_of_lt_mul (by rw [Nat.mul_comm]; exact h)
      obtain ⟨h1, h2, _⟩ := ih (n / 10) h10
      have hm : n % 10 < 10 := Nat.mod_lt _ (by omega)
      refine ⟨by rw [dig_app, h1, dig_one _ hm]; rfl, ?_, fun _ => by simp⟩
      rw [valN_app, h2, val_one _ hm]; omega
theorem decB_pos {n : Int} (h0 : 0 ≤ n) (h1 : n ≤ 9223372036854775807) : allDig (decB n) = true ∧ (valN 0 (decB n) : Int) = n ∧ decB n ≠ [] := by
  unfold decB
  rw [if_neg (by omega)]
  have hp : (100000000000000000000 : Nat) = 10 ^ 20 := rfl
  obtain ⟨a, b, c⟩ := decN_dig 20 n.toNat (by rw [← hp]; omega)
  exact ⟨a, by rw [b]; omega, c (by omega)⟩
theorem tok_int {n : Int} (h0 : 0 ≤ n) (h1 : n ≤ 9223372036854775807) : tokW (decB n) = ⟨3, decB n, n, 0, 0⟩ := by
  obtain ⟨a, b, c⟩ := decB_pos h0 h1
  have : sortW (decB n) = 3 := by
    cases hh : decB n with
    | nil => exact absurd hh c
    | cons x r =>
      rw [hh] at a
      simp only [allDig, List.all_cons, Bool.and_eq_true] at a
      simp only [sortW, a.1, if_true]
  simp only [tokW, this, if_true, b]
theorem no_blank_inner (s : Str) (h : spanN innerB s = s.length) : ∀ c ∈ s, c ≠ 32 := by
  induction s with
  | nil => intro c hc; cases hc
  | cons d r ih =>
    simp only [spanN] at h
    split at h
    · rename_i hd
      intro c hc
      rcases List.mem_cons.1 hc with rfl | hc
      · intro e; subst e; revert hd; decide
      · exact ih (by simpa using h) c hc
    · simp at h
end Go.Ab
/- The scanner: one token. -/
namespace Go.Ab
open Go Go.Ab.Tab
set_option maxRecDepth 100000
set_option maxHeartbeats 4000000
set_option linter.unusedSimpArgs false
def maxI : Nat := 9223372036854775807
def numD (s : Str) : Str := s.take (spanN digitB s)
def numT (s : Str) : PTok := ⟨3, numD s, if valN 0 (numD s) ≤ maxI then (valN 0 (numD s) : Int) else 9223372036854775807, 0, 0⟩
def notZ (d : Str) : Bool := d == [48] || !(d.head? == some 48)
def numOk (s : Str) : Bool := decide (valN 0 (numD s) ≤ maxI) && notZ (numD s) && (spanN innerB s == (numD s).length)
def wordD (s : Str) : Str := s.take (spanN innerB s)
def nameT (s : Str) : PTok := ⟨if wordL.any (wordD s == ·) then 5 else if upperB ((wordD s).headD 0).toNat then 2 else 1, wordD s, 0, 0, 0⟩
def signL' : List Str := [[45, 62], [60, 61], [60, 62], [40], [41], [91], [93], [60], [61], [44], [59], [58], [124], [43], [45], [42], [47], [37]]
def noTok : PTok := ⟨0, [], 0, 0, 0⟩
def signX (s : Str) : PTok × Bool := match signL'.find? (preB s) with
  | some x => (⟨4, x, 0, 0, 0⟩, true)
  | none => (noTok, false)
def lexT : Str → PTok × Bool
  | [] => (noTok, false)
  | c :: r => if digitB c.toNat then (numT (c :: r), numOk (c :: r)) else if lowerB c.toNat || upperB c.toNat then (nameT (c :: r), decide ((wordD (c :: r)).length ≤ 24)) else signX (c :: r)
/-- Digits, as the library reads them. -/
theorem valN_mono (t : Str) : ∀ a : Nat, a ≤ valN a t := by
  induction t with
  | nil => intro a; exact Nat.le_refl _
  | cons d t iht => intro a; have := iht (stpN a d); rw [valN_cons]; unfold stpN at this ⊢; omega
theorem parseM_cons (M acc : Nat) (c : UInt8) (r : Str) : Lib.parseUintM M acc (c :: r) = if 48 ≤ c.toNat ∧ c.toNat ≤ 57 then (if 1844674407370955162 ≤ acc then .range else if M < acc * 10 + (c.toNat - 48) then .range else Lib.parseUintM M (acc * 10 + (c.toNat - 48)) r) else .syntax := by rw [Lib.parseUintM]
theorem dig_range {c : UInt8} (h : digitB c.toNat = true) : 48 ≤ c.toNat ∧ c.toNat ≤ 57 := by
  simp only [digitB, Bool.and_eq_true, decide_eq_true_eq] at h; omega
theorem parseM (M : Nat) (hM : M = 18446744073709551615) (s : Str) : ∀ acc : Nat, allDig s = true → acc ≤ M → Lib.parseUintM M acc s = if valN acc s ≤ M then .ok (valN acc s) else .range := by
  induction s with
  | nil =>
    intro acc _ h
    show Lib.NumEnd.ok acc = if acc ≤ M then _ else _
    rw [if_pos h]; rfl
  | cons c r ih =>
    intro acc hd h
    have hd1 : digitB c.toNat = true ∧ allDig r = true := by
      unfold allDig at hd ⊢
      rw [List.all_cons, Bool.and_eq_true] at hd; exact hd
    have hc := dig_range hd1.1
    rw [parseM_cons, if_pos hc, valN_cons]
    have e : acc * 10 + (c.toNat - 48) = stpN acc c := by unfold stpN; omega
    have hm := valN_mono r (stpN acc c)
    have hst : 10 * acc ≤ stpN acc c := by unfold stpN; omega
    rw [e]
    generalize stpN acc c = q at *
    by_cases h1 : 1844674407370955162 ≤ acc
    · rw [if_pos h1, if_neg (by omega)]
    · rw [if_neg h1]
      by_cases h2 : M < q
      · rw [if_pos h2, if_neg (by omega)]
      · rw [if_neg h2]; exact ih _ hd1.2 (by omega)
theorem parse_num (s : Str) (hd : allDig s = true) (hne : s ≠ []) : Lib.parseIntB 64 s = if valN 0 s ≤ maxI then .ok (valN 0 s : Int) else .range := by
  cases s with
  | nil => exact absurd rfl hne
  | cons c r =>
    have hd1 : digitB c.toNat = true := by
      unfold allDig at hd
      rw [List.all_cons, Bool.and_eq_true] at hd; exact hd.1
    have hc := dig_range hd1
    have hp : (2 : Nat) ^ 64 - 1 = 18446744073709551615 := by decide
    have hq : (2 : Nat) ^ (64 - 1) = 9223372036854775808 := by decide
    have hm := parseM _ hp (c :: r) 0 hd (Nat.zero_le _)
    have hu : Lib.parseUintB 64 (c :: r) = Lib.parseUintM (2 ^ 64 - 1) 0 (c :: r) := rfl
    obtain ⟨v, hv⟩ : ∃ v, v = valN 0 (c :: r) := ⟨_, rfl⟩
    rw [← hv] at hm ⊢
    unfold Lib.parseIntB
    simp only [hq]
    rw [if_neg (by omega : ¬ (c.toNat = 43 ∨ c.toNat = 45)), hu, hm]
    unfold maxI
    by_cases h1 : v ≤ 2 ^ 64 - 1
    · rw [if_pos h1]
      simp only
      by_cases h2 : v ≤ 9223372036854775807
      · rw [if_pos h2, if_neg (by omega), if_neg (by omega), if_neg (by omega)]
      · rw [if_neg h2, if_pos (by omega)]
    · rw [if_neg h1, if_neg (by omega)]
theorem sat_num (s : Str) (hd : allDig s = true) : Lib.intSat 64 s = 9223372036854775807 := by
  unfold Lib.intSat
  rw [if_neg]
  · decide
  · cases s with
    | nil => simp
    | cons c r =>
      have hc : 48 ≤ c.toNat ∧ c.toNat ≤ 57 := by
        simp only [allDig, List.all_cons, Bool.and_eq_true] at hd
        have := hd.1
        simp only [digitB, Bool.and_eq_true, decide_eq_true_eq] at this; omega
      simp; omega
theorem take_dig (p : Int → Bool) : ∀ s : Str, (s.take (spanN p s)).all (fun c => p c.toNat) = true
  | [] => rfl
  | c :: r => by
    simp only [spanN]
    split
    · rename_i h
      simp only [List.take_succ_cons, List.all_cons, h, take_dig p r, Bool.and_self]
    · rfl
end Go.Ab
/- The scanner: contracts of what reads one token. -/
namespace Go.Ab
open Go Go.Ab.Tab
set_option maxRecDepth 100000
set_option maxHeartbeats 4000000
set_option linter.unusedSimpArgs false
def eqIf (d : Option TypeDesc) (b : Bool) : Option AVal := match d with
  | some (.interface _) => some (.bool b)
  | _ => none
theorem eqIf_int (ms : Array (String × TypeId)) (b : Bool) : eqIf (some (.interface ms)) b = some (.bool b) := rfl
section
variable (P : Program) (cmp : List TypeId) (t : TypeId)
theorem bin_inn : binA P cmp .eql t true .nili .nili = eqIf (P.underlying t) true := by
  simp only [binA, eqT, eqIf]
  cases P.underlying t with
  | none => rfl
  | some d => cases d <;> rfl
theorem bin_iin (n : Bool) (u : TypeId) (v : AVal) : binA P cmp .eql t n (.iface u v) .nili = eqIf (P.underlying t) false := by
  simp only [binA, eqT, eqIf]
  cases P.underlying t with
  | none => rfl
  | some d => cases d <;> rfl
end
theorem isConst_c (v : Value) : isConst (.const v) = true := rfl
theorem isConst_t (t : Tmp) : isConst (.tmp t) = false := rfl
theorem parse_c (d : Str) (hd : allDig d = true) (hne : d ≠ []) (hl : d.length ≤ 65536) : Ret C 117 [.str d, .int .i64 10, .int .i64 64]
    (.tuple [.int .i64 (if valN 0 d ≤ maxI then (valN 0 d : Int) else 9223372036854775807), if valN 0 d ≤ maxI then .nili else .iface errT (.eptr [] 0)]) := by
  have e := parse_num d hd hne
  have hl' : d.length ≤ extMax := by unfold extMax; omega
  refine Ret.mk rfl (by by_cases h : valN 0 d ≤ maxI <;> simp [h, refs, refsL]) ?_
  unfold C
  rw [evC_ext ext_parse]
  unfold extParse
  simp only
  rw [if_pos hl', e]
  by_cases h : valN 0 d ≤ maxI
  · simp only [if_pos h]
  · simp only [if_neg h, sat_num d hd]
theorem numD_len (s : Str) : (numD s).length = spanN digitB s := by
  unfold numD
  rw [List.length_take, Nat.min_eq_left (spanN_le _ _)]
theorem numD_dig (s : Str) : allDig (numD s) = true := take_dig digitB s
theorem hd48 (d : Str) : ((d == [48]) = true → notZ d = true) ∧ ((d == [48]) = false → notZ d = !(d.head? == some 48)) := by
  unfold notZ
  constructor <;> intro h <;> rw [h] <;> simp
theorem number_c (c : UInt8) (r : Str) (hc : digitB c.toNat = true) (hs : (c :: r).length ≤ 65536) : Ret C 85 [.str (c :: r)] (.tuple [.agg (numT (c :: r)).cells, .bool (numOk (c :: r))]) := by
  obtain ⟨s, hsd⟩ : ∃ s, s = c :: r := ⟨_, rfl⟩
  rw [← hsd] at hs ⊢
  have hsl : s.length ≤ lenTop := by unfold lenTop; omega
  have hne : numD s ≠ [] := by
    intro e
    have := numD_len s
    rw [e, hsd] at this
    simp only [spanN, hc, if_true, List.length_nil] at this; omega
  have c1 := span_c digitB 84 digit_c s hsl
  have c2 := span_c innerB 118 inner_c s hsl
  have hdl : (numD s).length ≤ 65536 := by rw [numD_len]; have := spanN_le digitB s; omega
  have c3 := parse_c (numD s) (numD_dig s) hne hdl
  have h1 : ((spanN digitB s : Int) ≤ (s.length : Int)) := by have := spanN_le digitB s; omega
  have h2 : (numD s).length ≤ lenTop := by unfold lenTop; omega
  have hnd : s.take (spanN digitB s) = numD s := rfl
  obtain ⟨d0, dr, hd0⟩ : ∃ a b, numD s = a :: b := by
    cases h : numD s with
    | nil => exact absurd h hne
    | cons a b => exact ⟨a, b, rfl⟩
  refine Ret.mk rfl rfl ?_
  have i0 : (numD s)[0]? = some d0 := by rw [hd0]; rfl
  have hT : (numT s).cells = [.int .i64 3, .str (numD s), .int .i64 (if valN 0 (numD s) ≤ maxI then (valN 0 (numD s) : Int) else 9223372036854775807), .int .i64 0, .int .i64 0] := rfl
  have hO : numOk s = (decide (valN 0 (numD s) ≤ maxI) && notZ (numD s) && (spanN innerB s == (numD s).length)) := rfl
  rw [hT, hO]
  obtain ⟨k1, k2⟩ := hd48 (numD s)
  have k3 : ((numD s).head? == some (48 : UInt8)) = ((d0.toNat : Int) == 48) := by
    rw [hd0]
    by_cases h : d0 = 48
    · subst h; rfl
    · have : d0.toNat ≠ 48 := fun e => h (UInt8.toNat_inj.1 (by rw [e]; rfl))
      have h1 : ((d0.toNat : Int) == 48) = false := by simp; omega
      rw [h1]; simp [h]
  have k4 : ((spanN innerB s : Int) == ((numD s).length : Int)) = (spanN innerB s == (numD s).length) := int_beq _ _
  by_cases h : valN 0 (numD s) ≤ maxI
  · have hdec : decide (valN 0 (numD s) ≤ maxI) = true := decide_eq_true h
    simp only [if_pos h, hdec] at c3 ⊢
    cases hz : numD s == [48]
    · rw [k2 hz, k3]
      rw [C_fn rfl Go.Proofs.Tryz.func85 rfl (by kernel_rfl) (m := 38) rfl]; simp only [sims, core, pe, Nat.reduceAdd, Nat.reduceBEq, Int.reduceBEq, Int.reduceBNe, Int.reduceLT, Int.reduceLE, Go.Proofs.Tryz.f85, fx_85, ty, c1 _, h1, sl_hi, hnd, c3 _, bin_inn, isConst_c, isConst_t, eqIf_int, hz, i0, bne]
      cases hq : ((d0.toNat : Int) == 48)
      · simp only [sims, core, pe, Nat.reduceAdd, Nat.reduceBEq, Int.reduceBEq, Int.reduceBNe, Int.reduceLT, Int.reduceLE, fx_85, ty, hq, c2 _, h2, k4]
        rw [leave_pure1 _ _ _ rfl, leave_pure2 _ _ _ rfl]; rfl
      · simp only [sims, core, pe, Nat.reduceAdd, Nat.reduceBEq, Int.reduceBEq, Int.reduceBNe, Int.reduceLT, Int.reduceLE, fx_85, ty, hq]
        rw [leave_pure1 _ _ _ rfl, leave_pure2 _ _ _ rfl]; rfl
    · rw [k1 hz]
      rw [C_fn rfl Go.Proofs.Tryz.func85 rfl (by kernel_rfl) (m := 38) rfl]; simp only [sims, core, pe, Nat.reduceAdd, Nat.reduceBEq, Int.reduceBEq, Int.reduceBNe, Int.reduceLT, Int.reduceLE, Go.Proofs.Tryz.f85, fx_85, ty, c1 _, h1, sl_hi, hnd, c3 _, bin_inn, isConst_c, isConst_t, eqIf_int, hz, i0, bne, c2 _, h2, k4]
      rw [leave_pure1 _ _ _ rfl, leave_pure2 _ _ _ rfl]; rfl
  · have hdec : decide (valN 0 (numD s) ≤ maxI) = false := decide_eq_false h
    simp only [if_neg h, hdec] at c3 ⊢
    rw [C_fn rfl Go.Proofs.Tryz.func85 rfl (by kernel_rfl) (m := 38) rfl]; simp only [sims, core, pe, Nat.reduceAdd, Nat.reduceBEq, Int.reduceBEq, Int.reduceBNe, Int.reduceLT, Int.reduceLE, Go.Proofs.Tryz.f85, fx_85, ty, c1 _, h1, sl_hi, hnd, c3 _, bin_iin, isConst_c, isConst_t, eqIf_int]
    rw [leave_pure1 _ _ _ rfl, leave_pure2 _ _ _ rfl]; rfl
theorem wordD_len (s : Str) : (wordD s).length = spanN innerB s := by
  unfold wordD
  rw [List.length_take, Nat.min_eq_left (spanN_le _ _)]
theorem name_tok_c (c : UInt8) (r : Str) (hc : innerB c.toNat = true) (hs : (c :: r).length ≤ 65536) : Ret C 88 [.str (c :: r)] (.tuple [.agg (nameT (c :: r)).cells, .bool (decide ((wordD (c :: r)).length ≤ 24))]) := by
  obtain ⟨s, hsd⟩ : ∃ s, s = c :: r := ⟨_, rfl⟩
  rw [← hsd] at hs ⊢
  have hsl : s.length ≤ lenTop := by unfold lenTop; omega
  have hwl : (wordD s).length ≤ lenTop := by rw [wordD_len]; have := spanN_le innerB s; omega
  obtain ⟨d0, dr, hd0⟩ : ∃ a b, wordD s = a :: b := by
    cases h : wordD s with
    | nil =>
      have := wordD_len s
      rw [h, hsd] at this
      simp only [spanN, hc, if_true, List.length_nil] at this; omega
    | cons a b => exact ⟨a, b, rfl⟩
  have c2 := span_c innerB 118 inner_c s hsl
  have c3 := isWord_c (wordD s)
  have c4 := upper_c d0.toNat
  have h1 : ((spanN innerB s : Int) ≤ (s.length : Int)) := by have := spanN_le innerB s; omega
  have hnd : s.take (spanN innerB s) = wordD s := rfl
  have i0 : (wordD s)[0]? = some d0 := by rw [hd0]; rfl
  have h24 : decide (((wordD s).length : Int) ≤ 24) = decide ((wordD s).length ≤ 24) := by
    by_cases h : (wordD s).length ≤ 24
    · rw [decide_eq_true h, decide_eq_true (by omega)]
    · rw [decide_eq_false h, decide_eq_false (by omega)]
  have hT : (nameT s).cells = [.int .i64 (if wordL.any (wordD s == ·) then 5 else if upperB d0.toNat then 2 else 1), .str (wordD s), .int .i64 0, .int .i64 0, .int .i64 0] := by
    unfold nameT; rw [hd0]; rfl
  refine Ret.mk rfl rfl ?_
  rw [hT]
  cases hw : wordL.any (wordD s == ·)
  · cases hu : upperB d0.toNat
    · rw [C_fn rfl Go.Proofs.Tryz.func88 rfl (by kernel_rfl) (m := 24) rfl]; simp only [sims, core, pe, Nat.reduceAdd, Nat.reduceBEq, Int.reduceBEq, Int.reduceBNe, Int.reduceLT, Int.reduceLE, Go.Proofs.Tryz.f88, fx_88, ty, c2 _, h1, sl_hi, hnd, c3 _, c4 _, i0, hw, hu, hwl, h24]
      rw [leave_pure1 _ _ _ rfl, leave_pure2 _ _ _ rfl]; rfl
    · rw [C_fn rfl Go.Proofs.Tryz.func88 rfl (by kernel_rfl) (m := 24) rfl]; simp only [sims, core, pe, Nat.reduceAdd, Nat.reduceBEq, Int.reduceBEq, Int.reduceBNe, Int.reduceLT, Int.reduceLE, Go.Proofs.Tryz.f88, fx_88, ty, c2 _, h1, sl_hi, hnd, c3 _, c4 _, i0, hw, hu, hwl, h24]
      rw [leave_pure1 _ _ _ rfl, leave_pure2 _ _ _ rfl]; rfl
  · rw [C_fn rfl Go.Proofs.Tryz.func88 rfl (by kernel_rfl) (m := 24) rfl]; simp only [sims, core, pe, Nat.reduceAdd, Nat.reduceBEq, Int.reduceBEq, Int.reduceBNe, Int.reduceLT, Int.reduceLE, Go.Proofs.Tryz.f88, fx_88, ty, c2 _, h1, sl_hi, hnd, c3 _, i0, hw, hwl, h24]
    rw [leave_pure1 _ _ _ rfl, leave_pure2 _ _ _ rfl]; rfl
theorem signs_c : Ret C 116 [] (.agg (signL'.map .str)) := Ret.mk rfl rfl (C_of (n := 4) (by kernel_rfl))
def signR : Option Str → AVal
  | some x => .tuple [.agg (PTok.cells ⟨4, x, 0, 0, 0⟩), .bool true]
  | none => .tuple [.agg noTok.cells, .bool false]
theorem sign_c (s : Str) (hs : s.length ≤ 65536) : Ret C 83 [.str s] (.tuple [.agg (signX s).1.cells, .bool (signX s).2]) := by
  refine Ret.mk rfl rfl ?_
  have e1 := signs_c
  have hsl : s.length ≤ lenTop := by unfold lenTop; omega
  have c1 := fun (x : Str) hx => hasPreS_c s x hsl hx
  rw [C_fn rfl Go.Proofs.Tryz.func83 rfl (by kernel_rfl) (m := 16) rfl]; simp only [sims, core, pe, Nat.reduceAdd, Nat.reduceBEq, Int.reduceBEq, Int.reduceBNe, Int.reduceLT, Int.reduceLE, Go.Proofs.Tryz.f83, fx_83, ty, e1 _]
  generalize hb : codeB PP cmp0 C lpC _ = f; generalize hl : lpC f _ = r
  obtain ⟨ex, s', rfl, h2⟩ := lpC_at (α := Nat) hl [3, 5, 8, 9, 10, 11, 12, 13, 14, 15] (fun i => [(7, .int .i64 i)]) (fun i => i ≤ 18) (fun i => 18 - i) (fun i => (signL'.drop i).find? (preB s))
    (fun ts H r ex st => (r = none ∧ ex = .exit 0 ∧ At [3, 5, 7, 8, 9, 10, 11, 12, 13, 14, 15] ts H [] st) ∨ (∃ x, r = some x ∧ ex = .ret ∧ At [5, 7, 8, 9, 10, 11, 12, 13, 14, 15] ts [.box (PTok.cells ⟨4, x, 0, 0, 0⟩)] [(3, .bool true)] st)) 0 (Nat.zero_le _) (At.of [] (by simp only [ats, Int.natCast_zero]) (by simp only [List.append_nil])) (by
      intro i j H d hi
      clear hl; subst hb
      by_cases hlt : i < 18
      · have e1' : ((i : Int) < 18) := by omega
        have hx : i < signL'.length := hlt
        have e3 : (signL'.map AVal.str)[i]? = some (.str signL'[i]) := by simp [hx]
        have hxl : signL'[i].length ≤ lenTop := by
          have : ∀ x ∈ signL', x.length ≤ lenTop := by decide
          exact this _ (List.getElem_mem hx)
        have hst : (signL'.drop i).find? (preB s) = if preB s signL'[i] = true then some signL'[i] else (signL'.drop (i + 1)).find? (preB s) := by
          rw [List.drop_eq_getElem_cons hx, List.find?_cons]
          cases preB s signL'[i] <;> rfl
        have eI : indexA PP (some (.array 18 9)) (.agg (signL'.map AVal.str)) (.int .i64 (i : Int)) = some (.val (.str signL'[i]) .same) := by
          have k1 : sizeA PP 9 = some 1 := sz_9
          have k2 : aggA PP 9 = some false := ag_9
          unfold indexA partA
          simp only [k1, k2, Int.toNat_natCast, Nat.mul_one, e3]
          rw [if_pos (by simp; omega)]; rfl
        cases hp : preB s signL'[i]
        · simp only [sims, core, pe, Nat.reduceAdd, Nat.reduceBEq, Int.reduceBEq, Int.reduceBNe, Int.reduceLT, Int.reduceLE, effs, fx_83, ty, e1', eI, c1 _ hxl _, hp, wrap_nat (show i ≤ lenTop by unfold lenTop; omega)]
          exact .inl ⟨i + 1, _, rfl, hlt, At.of _ (by simp only [ats, Int.natCast_zero]) (by simp only [List.cons_append, List.append_assoc, List.nil_append]; rfl), by simp only []; omega, by simp only [hst, hp]; rfl⟩
        · simp only [sims, core, pe, Nat.reduceAdd, Nat.reduceBEq, Int.reduceBEq, Int.reduceBNe, Int.reduceLT, Int.reduceLE, effs, fx_83, ty, e1', eI, c1 _ hxl _, hp]
          exact .inr ⟨_, _, rfl, by simp, .inr ⟨signL'[i], by simp only [hst, hp, if_true], rfl, At.of _ (by simp only [ats, Int.natCast_zero]) (by simp only [List.cons_append, List.append_assoc, List.nil_append]; rfl)⟩⟩
      · have e1' : ¬ ((i : Int) < 18) := by omega
        have hi18 : i = 18 := by omega
        subst hi18
        simp only [sims, core, pe, Nat.reduceAdd, Nat.reduceBEq, Int.reduceBEq, Int.reduceBNe, Int.reduceLT, Int.reduceLE, fx_83, ty, e1']
        exact .inr ⟨_, _, rfl, by simp, .inl ⟨rfl, rfl, At.of _ (by simp only [ats, Int.natCast_zero]) (by simp only [List.cons_append, List.append_assoc, List.nil_append]; rfl)⟩⟩)
  rw [List.drop_zero] at h2
  unfold signX
  rcases h2 with ⟨hr, rfl, h2⟩ | ⟨x, hr, rfl, h2⟩
  · obtain ⟨j, H, d, rfl⟩ := h2.elim
    clear hl
    rw [hr]
    simp only [sims, core, pe, Nat.reduceAdd, Nat.reduceBEq, Int.reduceBEq, Int.reduceBNe, Int.reduceLT, Int.reduceLE, effs, fx_83, ty]
    rw [leave_pure1 _ _ _ rfl, leave_pure2 _ _ _ rfl]; rfl
  · obtain ⟨j, H, d, rfl⟩ := h2.elim
    clear hl
    rw [hr]
    simp only [sims, core, pe, Nat.reduceAdd, Nat.reduceBEq, Int.reduceBEq, Int.reduceBNe, Int.reduceLT, Int.reduceLE, effs, fx_83, ty]
    rw [leave_pure1 _ _ _ rfl, leave_pure2 _ _ _ rfl]; rfl
end Go.Ab
