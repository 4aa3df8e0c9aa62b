/- Parts of texts. -/
import Derived.Test.YtnmejllfnndcbaaGreatDoorAbSims
import Derived.Test.YtnmejllfnndcbaaGreatDoorAbTypes
set_option linter.unusedSimpArgs false
set_option linter.unusedVariables false
namespace Go.Ab
section
variable {P : Program} {t : TypeId}
theorem sl_hi (hu : P.underlying t = some .string) {s : List UInt8} {k : IntKind} {n : Int} (h0 : 0 ≤ n) (h1 : n ≤ s.length) : sliceA P t (.str s) none (some (.int k n)) none = some (.str (s.take n.toNat)) := by
  have h2 : bound (.int k n) s.length = some n.toNat := by simp [bound, h0, h1]
  simp [sliceA, hu, h2]
theorem sl_lo (hu : P.underlying t = some .string) {s : List UInt8} {k : IntKind} {n : Int} (h0 : 0 ≤ n) (h1 : n ≤ s.length) : sliceA P t (.str s) (some (.int k n)) none none = some (.str (s.drop n.toNat)) := by
  have h2 : bound (.int k n) s.length = some n.toNat := by simp [bound, h0, h1]
  have h3 : List.take (s.length - n.toNat) (List.drop n.toNat s) = List.drop n.toNat s := List.take_of_length_le (by simp)
  simp [sliceA, hu, h2, h3]
end
end Go.Ab
/- The scanner: blanks and notes. -/
namespace Go.Ab
open Go Go.Ab.Tab
set_option maxRecDepth 100000
set_option maxHeartbeats 4000000
set_option linter.unusedSimpArgs false
def blankB (z : Int) : Bool := z == 32 || z == 9 || z == 10 || z == 13
def lineB (z : Int) : Bool := !(z == 10)
theorem blank_c (z : Int) : Ret C 80 [.int .u8 z] (.bool (blankB z)) := by
  refine Ret.mk rfl rfl ?_
  rw [C_fn rfl Go.Proofs.Tryz.func80 rfl (by kernel_rfl) (m := 16) rfl]; simp only [sims, core, pe, Nat.reduceAdd, Int.reduceBEq, Int.reduceBNe, Int.reduceLT, Int.reduceLE, Go.Proofs.Tryz.f80, fx_80, blankB]
  cases h1 : z == 32
  · cases h2 : z == 9
    · cases h3 : z == 10
      · simp only [sims, core, pe, Nat.reduceAdd, Int.reduceBEq, Int.reduceBNe, Int.reduceLT, Int.reduceLE, fx_80, h1, h2, h3]
      · simp only [sims, core, pe, Nat.reduceAdd, Int.reduceBEq, Int.reduceBNe, Int.reduceLT, Int.reduceLE, fx_80, h1, h2, h3]
    · simp only [sims, core, pe, Nat.reduceAdd, Int.reduceBEq, Int.reduceBNe, Int.reduceLT, Int.reduceLE, fx_80, h1, h2]
  · simp only [sims, core, pe, Nat.reduceAdd, Int.reduceBEq, Int.reduceBNe, Int.reduceLT, Int.reduceLE, fx_80, h1]
theorem line_c (z : Int) : Ret C 82 [.int .u8 z] (.bool (lineB z)) := by
  refine Ret.mk rfl rfl ?_
  rw [C_fn rfl Go.Proofs.Tryz.func82 rfl (by kernel_rfl) (m := 4) rfl]; simp only [sims, core, pe, Nat.reduceAdd, Int.reduceBEq, Int.reduceBNe, Int.reduceLT, Int.reduceLE, Go.Proofs.Tryz.f82, fx_82, lineB, bne]
def preB (s p : Str) : Bool := decide (p.length ≤ s.length) && (s.take p.length == p)
theorem hasPreA_c (s p : Str) (hs : s.length ≤ lenTop) (hp : p.length ≤ lenTop) : Ret C 115 [.str s, .str p] (.bool (preB s p)) := by
  refine Ret.mk rfl rfl ?_
  by_cases h : p.length ≤ s.length
  · have h1 : ((p.length : Int) ≤ (s.length : Int)) := by omega
    have h2 : decide (p.length ≤ s.length) = true := decide_eq_true h
    rw [C_fn rfl Go.Proofs.Tryz.func115 rfl (by kernel_rfl) (m := 16) rfl]; simp only [sims, core, pe, Nat.reduceAdd, Int.reduceBEq, Int.reduceBNe, Int.reduceLT, Int.reduceLE, Go.Proofs.Tryz.f115, fx_115, hs, hp, h1, preB, h2, sl_hi]
    done
  · have h1 : ¬ ((p.length : Int) ≤ (s.length : Int)) := by omega
    have h2 : decide (p.length ≤ s.length) = false := decide_eq_false h
    rw [C_fn rfl Go.Proofs.Tryz.func115 rfl (by kernel_rfl) (m := 16) rfl]; simp only [sims, core, pe, Nat.reduceAdd, Int.reduceBEq, Int.reduceBNe, Int.reduceLT, Int.reduceLE, Go.Proofs.Tryz.f115, fx_115, hs, hp, h1, preB, h2]
    done
theorem hasPreS_c (s p : Str) (hs : s.length ≤ lenTop) (hp : p.length ≤ lenTop) : Ret C 81 [.str s, .str p] (.bool (preB s p)) := by
  refine Ret.mk rfl rfl ?_
  have e1 := hasPreA_c s p hs hp
  rw [C_fn rfl Go.Proofs.Tryz.func81 rfl (by kernel_rfl) (m := 6) rfl]; simp only [sims, core, pe, Nat.reduceAdd, Int.reduceBEq, Int.reduceBNe, Int.reduceLT, Int.reduceLE, Go.Proofs.Tryz.f81, fx_81, e1 _]
theorem rest_c (text : Str) (hT : text.length ≤ 65536) (k : Nat) (hk : k ≤ text.length) : C 78 [.ptr 0 0] [.box (scell text k)] = some (.ret (.str (text.drop k)) .same) := by
  have h1 : ((k : Int) ≤ (text.length : Int)) := by omega
  rw [C_fn rfl Go.Proofs.Tryz.func78 rfl (by kernel_rfl) (m := 11) rfl]; simp only [sims, core, pe, Nat.reduceAdd, Int.reduceBEq, Int.reduceBNe, Int.reduceLT, Int.reduceLE, Go.Proofs.Tryz.f78, fx_78, scell, h1, sl_lo]
  rw [leave_clean 1 (.str (text.drop k)) _ [] (by simp) rfl]; rfl
/-- How many bytes of blanks and notes (note: inside of one) a text begins with. -/
def gapS : Bool → Str → Nat
  | _, [] => 0
  | true, c :: r => if c = 10 then 1 + gapS false r else 1 + gapS true r
  | false, c :: r => if blankB c.toNat = true then 1 + gapS false r else if c = 45 ∧ r.head? = some 45 then 1 + gapS true r else 0
def blankN (s : Str) : Nat := if spanN blankB s = 0 ∧ preB s [45, 45] = true then spanN lineB s else spanN blankB s
theorem gapS_blank : ∀ s : Str, gapS false s = spanN blankB s + gapS false (s.drop (spanN blankB s))
  | [] => rfl
  | c :: r => by
    by_cases h : blankB c.toNat = true
    · simp only [gapS, spanN, if_pos h, List.drop_succ_cons]
      rw [gapS_blank r]; omega
    · simp only [spanN, if_neg h, List.drop_zero, Nat.zero_add]
theorem gapS_note : ∀ s : Str, gapS true s = spanN lineB s + gapS false (s.drop (spanN lineB s))
  | [] => rfl
  | c :: r => by
    by_cases h : c = 10
    · subst h
      have hl : lineB ((10 : UInt8).toNat : Nat) = false := rfl
      have h0 : spanN lineB (10 :: r) = 0 := by simp only [spanN, hl]; rfl
      rw [h0, List.drop_zero, Nat.zero_add]; simp only [gapS, if_true]; rfl
    · have hl : lineB c.toNat = true := by
        have : c.toNat ≠ 10 := fun e => h (UInt8.toNat_inj.1 (by rw [e]; rfl))
        unfold lineB; simp; omega
      simp only [gapS, spanN, if_neg h, if_pos hl, List.drop_succ_cons]
      rw [gapS_note r]; omega
theorem pre_dash (s : Str) : preB s [45, 45] = true ↔ ∃ r, s = 45 :: 45 :: r := by
  unfold preB
  match s with
  | [] => simp
  | [a] => simp
  | a :: b :: r => simp
theorem gap_step (s : Str) : gapS false s = blankN s + gapS false (s.drop (blankN s)) := by
  unfold blankN
  split
  · rename_i h
    obtain ⟨r, rfl⟩ := (pre_dash s).1 h.2
    have h1 : gapS false (45 :: 45 :: r) = 1 + gapS true (45 :: r) := rfl
    have h2 : gapS true (45 :: r) = 1 + gapS true r := rfl
    have h3 : gapS true (45 :: 45 :: r) = 1 + gapS true (45 :: r) := rfl
    rw [h1, ← h3]; exact gapS_note _
  · exact gapS_blank s
theorem gap_zero {s : Str} (h : blankN s = 0) : gapS false s = 0 := by
  unfold blankN at h
  split at h
  · rename_i hp
    obtain ⟨r, rfl⟩ := (pre_dash s).1 hp.2
    have : spanN lineB (45 :: 45 :: r) = spanN lineB (45 :: r) + 1 := rfl
    omega
  · rename_i hp
    have hp' : preB s [45, 45] = false := by
      cases hq : preB s [45, 45] with
      | false => rfl
      | true => exact absurd ⟨h, hq⟩ hp
    cases s with
    | nil => rfl
    | cons c r =>
      have hb : ¬ blankB c.toNat = true := by
        intro hb; simp only [spanN, if_pos hb] at h; omega
      simp only [gapS, if_neg hb]
      rw [if_neg]
      rintro ⟨rfl, hr⟩
      cases r with
      | nil => cases hr
      | cons d t =>
        have : d = 45 := by simpa using hr
        subst this
        have := (pre_dash (45 :: 45 :: t)).2 ⟨t, rfl⟩
        rw [hp'] at this; cases this
theorem spanN_len (p : Int → Bool) (s : Str) : spanN p s ≤ s.length := spanN_le p s
theorem blankN_le (s : Str) : blankN s ≤ s.length := by
  unfold blankN; split <;> exact spanN_le _ _
theorem blanks_c (text : Str) (hT : text.length ≤ 65536) (k : Nat) (hk : k ≤ text.length) : Gives C 51 [.ptr 0 0] [.box (scell text k)] (.tuple []) [.box (scell text (k + gapS false (text.drop k)))] := by
  refine C_gives rfl Go.Proofs.Tryz.func51 rfl (by kernel_rfl) (m := 20) rfl ?_; simp only [sims, core, pe, Nat.reduceAdd, Int.reduceBEq, Int.reduceBNe, Int.reduceLT, Int.reduceLE, Go.Proofs.Tryz.f51, fx_51]
  generalize hb : codeB PP cmp0 C lpC _ = f; generalize hl : lpC f _ = r
  obtain ⟨ex, s', rfl, rfl, h2⟩ := lpC_atH (α := Nat) hl [2, 3, 4, 5, 6, 7, 8, 9, 10, 11, 12, 13, 14, 15, 16, 17, 18, 19, 20] (fun _ => []) (fun i => [.box (scell text i)]) (fun i => i ≤ text.length) (fun i => text.length - i) (fun i => i + gapS false (text.drop i))
    (fun ts r ex s => ex = .ret ∧ At [2, 3, 4, 5, 6, 7, 8, 9, 10, 11, 12, 13, 14, 15, 16, 17, 18, 19, 20] ts [.box (scell text r)] [] s) k hk (At.of [] (by simp only [ats, Int.natCast_zero]) (by simp only [List.append_nil])) (by
      intro i j H d hi
      clear hl; subst hb
      obtain ⟨n, hn⟩ : ∃ n, n = blankN (text.drop i) := ⟨_, rfl⟩
      have hnl : n ≤ text.length - i := by rw [hn]; have := blankN_le (text.drop i); rwa [List.length_drop] at this
      have hs : (text.drop i).length ≤ lenTop := by rw [List.length_drop]; unfold lenTop; omega
      have c1 := callA_oneR (c := C) (b := 0) (H := .box (scell text i) :: H) (rest := []) rfl rfl rfl (rest_c text hT i hi) rfl
      have c2 := span_c blankB 80 blank_c (text.drop i) hs
      have c3 := hasPreS_c (text.drop i) [45, 45] hs (by decide)
      have c4 := span_c lineB 82 line_c (text.drop i) hs
      obtain ⟨E, hE, hh⟩ := callA_one keepC (b := 0) (H := .box (scell text i) :: H) (rest := [.int .i64 n]) rfl rfl rfl rfl (skip_c text hT i n (by omega)) rfl
      have h9 : (Eff.of (.box (scell text i) :: H) E) = .box (scell text (i + n)) :: H := hh
      have hgs := gap_step (text.drop i)
      rw [← hn, List.drop_drop] at hgs
      have stop : n = 0 → i + gapS false (text.drop i) = i := fun h => by rw [gap_zero (by rw [← hn]; exact h)]; rfl
      have goes : i + n + gapS false (text.drop (i + n)) = i + gapS false (text.drop i) := by rw [hgs]; omega
      by_cases h0 : spanN blankB (text.drop i) = 0
      · have h0' : ((spanN blankB (text.drop i) : Int) == 0) = true := by rw [h0]; rfl
        cases hp : preB (text.drop i) [45, 45]
        · have hn0 : n = 0 := by rw [hn]; unfold blankN; rw [hp]; simp [h0]
          simp only [sims, core, pe, Nat.reduceAdd, Int.reduceBEq, Int.reduceBNe, Int.reduceLT, Int.reduceLE, effs, fx_51, c1, c2 _, c3 _, h0', hp]
          exact .inr ⟨_, _, rfl, by simp, rfl, by rw [stop hn0]; exact At.of _ (by simp only [ats, Int.natCast_zero]) (by simp only [List.cons_append, List.append_assoc, List.nil_append]; rfl)⟩
        · have hn1 : spanN lineB (text.drop i) = n := by rw [hn]; unfold blankN; rw [if_pos ⟨h0, hp⟩]
          by_cases hz : n = 0
          · have hz' : ((n : Int) == 0) = true := by rw [hz]; rfl
            rw [hn1] at c4
            simp only [sims, core, pe, Nat.reduceAdd, Int.reduceBEq, Int.reduceBNe, Int.reduceLT, Int.reduceLE, effs, fx_51, c1, c2 _, c3 _, c4 _, h0', hp, hz']
            exact .inr ⟨_, _, rfl, by simp, rfl, by rw [stop hz]; exact At.of _ (by simp only [ats, Int.natCast_zero]) (by simp only [List.cons_append, List.append_assoc, List.nil_append]; rfl)⟩
          · have hz' : ((n : Int) == 0) = false := by simp; omega
            rw [hn1] at c4
            simp only [sims, core, pe, Nat.reduceAdd, Int.reduceBEq, Int.reduceBNe, Int.reduceLT, Int.reduceLE, effs, fx_51, c1, c2 _, c3 _, c4 _, h0', hp, hz', hE, h9]
            exact .inl ⟨i + n, _, rfl, by omega, At.of _ (by simp only [ats, Int.natCast_zero]) (by simp only [List.cons_append, List.append_assoc, List.nil_append]; rfl), by omega, goes⟩
      · have h0' : ((spanN blankB (text.drop i) : Int) == 0) = false := by simp; omega
        have hn2 : spanN blankB (text.drop i) = n := by rw [hn]; unfold blankN; rw [if_neg (fun h => h0 h.1)]
        rw [hn2] at c2 h0 h0'
        simp only [sims, core, pe, Nat.reduceAdd, Int.reduceBEq, Int.reduceBNe, Int.reduceLT, Int.reduceLE, effs, fx_51, c1, c2 _, h0', hE, h9]
        exact .inl ⟨i + n, _, rfl, by omega, At.of _ (by simp only [ats, Int.natCast_zero]) (by simp only [List.cons_append, List.append_assoc, List.nil_append]; rfl), by omega, goes⟩)
  obtain ⟨j, H, d, rfl⟩ := h2.elim
  clear hl
  exact fin_stays (.inl rfl) rfl rfl rfl (fun b hb => by
    obtain rfl : b = 0 := Nat.lt_one_iff.1 hb
    exact stay_scell _ text _ _ _ rfl) rfl
end Go.Ab
