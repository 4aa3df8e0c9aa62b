/- What a scan tells; words with blanks between scan. -/
import Derived.Test.YtnmejllfnndcbaaGreatDoorAbTok
import Derived.Test.YtnmejllfnndcbaaGreatDoorAbBack2
import Derived.Test.YtnmejllfnndcbaaGreatDoorAbInv
import Derived.Test.YtnmejllfnndcbaaGreatDoorAbTypes
set_option linter.unusedSimpArgs false
set_option linter.unusedVariables false
namespace Go.Ab
open Go Go.Ab.Tab
set_option maxRecDepth 100000
set_option maxHeartbeats 4000000
set_option linter.unusedSimpArgs false
def atP (text : Str) (k : Nat) (t : PTok) : PTok := ⟨t.sort, t.text, t.n, (plc (text.take k)).1, (plc (text.take k)).2⟩
def endT : PTok := ⟨6, [], 0, 0, 0⟩
/-- The tokens from k on; or where none is. -/
def scanF (text : Str) : Nat → Nat → Option (List PTok) × Nat
  | 0, k => (none, k)
  | f + 1, k => if k + gapS false (text.drop k) = text.length then (some [atP text (k + gapS false (text.drop k)) endT], 0)
    else if (lexT (text.drop (k + gapS false (text.drop k)))).2 = true then
      (match scanF text f (k + gapS false (text.drop k) + (lexT (text.drop (k + gapS false (text.drop k)))).1.text.length) with
      | (some l, p) => (some (atP text (k + gapS false (text.drop k)) (lexT (text.drop (k + gapS false (text.drop k)))).1 :: l), p)
      | (none, p) => (none, p))
    else (none, k + gapS false (text.drop k))
def strip (t : PTok) : PTok := ⟨t.sort, t.text, t.n, 0, 0⟩
theorem strip_at (text : Str) (k : Nat) (t : PTok) (h : t = strip t) : strip (atP text k t) = t := by
  rw [h]; rfl
def Brk (p : Int → Bool) (r : Str) : Prop := r = [] ∨ ∃ c t, r = c :: t ∧ p c.toNat = false
theorem spanN_app {p : Int → Bool} : ∀ {w r : Str}, spanN p w = w.length → Brk p r → spanN p (w ++ r) = w.length
  | [], r, _, h => by
    rcases h with rfl | ⟨c, t, rfl, hc⟩
    · rfl
    · simp only [List.nil_append, spanN, hc]; rfl
  | c :: w, r, h, hb => by
    simp only [spanN] at h
    split at h
    · rename_i hc
      simp only [List.cons_append, spanN, hc, if_true, List.length_cons] at h ⊢
      rw [spanN_app (by omega) hb]
    · simp at h
/-- Nothing, or a blank. -/
def Bl (r : Str) : Prop := r = [] ∨ ∃ t, r = 32 :: t
theorem Bl.brk {r : Str} (h : Bl r) (p : Int → Bool) (hp : p 32 = false) : Brk p r := by
  rcases h with rfl | ⟨t, rfl⟩
  · exact .inl rfl
  · exact .inr ⟨32, t, rfl, hp⟩
theorem wordD_app {w r : Str} (h : spanN innerB w = w.length) (hb : Bl r) : wordD (w ++ r) = w := by
  unfold wordD
  rw [spanN_app h (hb.brk innerB rfl), List.take_left]
theorem lex_wordlike {w r : Str} {c : UInt8} {t : Str} (hw : w = c :: t) (hd : digitB c.toNat = false) (hl : (lowerB c.toNat || upperB c.toNat) = true) (hs : spanN innerB w = w.length) (h24 : w.length ≤ 24) (hb : Bl r) :
    lexT (w ++ r) = (⟨if wordL.any (w == ·) then 5 else if upperB c.toNat then 2 else 1, w, 0, 0, 0⟩, true) := by
  have e := wordD_app hs hb
  subst hw
  rw [List.cons_append] at e ⊢
  simp only [lexT, hd, hl, if_true, nameT, e, List.headD_cons]
  rw [decide_eq_true h24]; rfl
theorem words_tok : ∀ w ∈ wordL, sortW w = 5 ∧ spanN innerB w = w.length ∧ w.length ≤ 24 ∧ w ≠ [] := by decide
theorem sign_tok : ∀ w ∈ signL, sortW w = 4 := by decide
theorem sign_lex {w : Str} (h : w ∈ signL) {r : Str} (hb : Bl r) : lexT (w ++ r) = (⟨4, w, 0, 0, 0⟩, true) := by
  simp only [signL, List.mem_cons, List.not_mem_nil, or_false] at h
  rcases hb with rfl | ⟨t, rfl⟩
  · rcases h with rfl | rfl | rfl | rfl | rfl | rfl | rfl | rfl | rfl | rfl | rfl | rfl | rfl | rfl | rfl | rfl | rfl | rfl <;> rfl
  · rcases h with rfl | rfl | rfl | rfl | rfl | rfl | rfl | rfl | rfl | rfl | rfl | rfl | rfl | rfl | rfl | rfl | rfl | rfl <;> rfl
theorem dig_span {w : Str} (h : allDig w = true) : spanN digitB w = w.length := by
  induction w with
  | nil => rfl
  | cons c t ih =>
    unfold allDig at h
    rw [List.all_cons, Bool.and_eq_true] at h
    simp only [spanN, h.1, if_true, List.length_cons, ih h.2]
theorem dig_inner {w : Str} (h : allDig w = true) : spanN innerB w = w.length := by
  induction w with
  | nil => rfl
  | cons c t ih =>
    unfold allDig at h
    rw [List.all_cons, Bool.and_eq_true] at h
    have : innerB c.toNat = true := by unfold innerB; rw [h.1]; simp
    simp only [spanN, this, if_true, List.length_cons, ih h.2]
/-- No zero ahead. -/
theorem decN_zero : ∀ (f n : Nat), n < 10 ^ f → 0 < f → decN f n = [48] ∨ (0 < n ∧ ∃ c t, decN f n = c :: t ∧ c ≠ 48)
  | 0, n, _, h0 => by omega
  | f + 1, n, h, _ => by
    rw [decN_succ]
    by_cases hn : n < 10
    · rw [if_pos hn]
      by_cases hz : n = 0
      · subst hz; exact .inl rfl
      · refine .inr ⟨by omega, _, [], rfl, fun e => ?_⟩
        have := congrArg UInt8.toNat e
        rw [digit_ofNat n hn] at this
        have h48 : (48 : UInt8).toNat = 48 := rfl
        omega
    · rw [if_neg hn]
      have h10 : n / 10 < 10 ^ f := by
        rw [Nat.pow_succ] at h
        exact Nat.div_lt_of_lt_mul (by rw [Nat.mul_comm]; exact h)
      have hf : 0 < f := by
        cases f with
        | zero => simp at h; omega
        | succ f => omega
      rcases decN_zero f (n / 10) h10 hf with h1 | ⟨_, c, t, h1, h2⟩
      · exfalso
        have := (decN_dig f (n / 10) h10).2.1
        rw [h1] at this
        have h3 : valN 0 [48] = 0 := rfl
        omega
      · exact .inr ⟨by omega, c, t ++ [UInt8.ofNat (48 + n % 10)], by rw [h1]; rfl, h2⟩
theorem int_lex {n : Int} (h0 : 0 ≤ n) (h1 : n ≤ 9223372036854775807) {r : Str} (hb : Bl r) : lexT (decB n ++ r) = (⟨3, decB n, n, 0, 0⟩, true) := by
  obtain ⟨a, b, c⟩ := decB_pos h0 h1
  have hz : decB n = [48] ∨ (decB n).head? ≠ some 48 := by
    unfold decB
    rw [if_neg (by omega)]
    have hp : (100000000000000000000 : Nat) = 10 ^ 20 := rfl
    rcases decN_zero 20 n.toNat (by rw [← hp]; omega) (by omega) with h | ⟨_, c, t, h, h2⟩
    · exact .inl h
    · refine .inr ?_
      rw [h]; simpa using h2
  generalize decB n = w at a b c hz
  have hnd : numD (w ++ r) = w := by
    unfold numD
    rw [spanN_app (dig_span a) (hb.brk digitB rfl), List.take_left]
  have hin : spanN innerB (w ++ r) = w.length := spanN_app (dig_inner a) (hb.brk innerB rfl)
  have hle : valN 0 w ≤ maxI := by unfold maxI; omega
  cases w with
  | nil => exact absurd rfl c
  | cons d t =>
    have hd : digitB d.toNat = true := by
      unfold allDig at a
      rw [List.all_cons, Bool.and_eq_true] at a; exact a.1
    have hnz : notZ (d :: t) = true := by
      unfold notZ
      rcases hz with hz | hz
      · rw [hz]; rfl
      · have : ((d :: t).head? == some (48 : UInt8)) = false := by simpa using hz
        rw [this]; simp
    rw [List.cons_append] at hnd hin ⊢
    have e : lexT (d :: (t ++ r)) = (numT (d :: (t ++ r)), numOk (d :: (t ++ r))) := by simp only [lexT, hd]; rfl
    rw [e]
    unfold numT numOk
    rw [hnd, hin, if_pos hle, decide_eq_true hle, hnz, b]
    simp
theorem wok_lex {w : Str} (h : WOk w) {r : Str} (hb : Bl r) : lexT (w ++ r) = (tokW w, true) := by
  cases h with
  | name h =>
    have h' := h
    simp only [isNameB, Bool.and_eq_true, Bool.not_eq_true'] at h'
    obtain ⟨c, t, hw, hc, h24, hs⟩ := shaped_cons h'.1
    rw [tok_name h]
    rw [← hw] at h24 hs
    rw [lex_wordlike hw (lower_digit _ hc) (by rw [hc]; rfl) hs h24 hb, h'.2, lower_upper _ hc]; rfl
  | con h =>
    obtain ⟨c, t, hw, hc, h24, hs⟩ := shaped_cons h
    rw [tok_con h]
    rw [← hw] at h24 hs
    have hn : wordL.any (w == ·) = false := by rw [hw]; exact upper_noword c t hc
    rw [lex_wordlike hw (upper_digit _ hc) (by rw [hc]; simp) hs h24 hb, hn, hc]; rfl
  | word h =>
    obtain ⟨h1, h2, h3, h4⟩ := words_tok w h
    obtain ⟨c, t, hw⟩ : ∃ c t, w = c :: t := by
      cases w with
      | nil => exact absurd rfl h4
      | cons c t => exact ⟨c, t, rfl⟩
    have hlow : lowerB c.toNat = true := by have := words_low w h; rw [hw] at this; exact this
    have hany := mem_any h
    rw [lex_wordlike hw (lower_digit _ hlow) (by rw [hlow]; rfl) h2 h3 hb, hany]
    unfold tokW; rw [h1]; rfl
  | sign h =>
    rw [sign_lex h hb]
    unfold tokW; rw [sign_tok w h]; rfl
  | int n h0 h1 => rw [int_lex h0 h1 hb, tok_int h0 h1]
theorem gap_word {w : Str} (h : WOk w) {r : Str} (hb : Bl r) : gapS false (w ++ r) = 0 := by
  have noblank : ∀ (c : UInt8) (t : Str), blankB c.toNat = false → ¬ (c = 45 ∧ t.head? = some 45) → gapS false (c :: t) = 0 := by
    intro c t h1 h2
    simp only [gapS, h1, if_neg h2]; rfl
  have inner : ∀ c : UInt8, innerB c.toNat = true → blankB c.toNat = false ∧ c ≠ 45 := by
    intro c hc
    have hr : innerB c.toNat = true → blankB c.toNat = false := by
      intro h
      unfold innerB lowerB upperB digitB at h
      unfold blankB
      simp only [Bool.or_eq_true, Bool.and_eq_true, decide_eq_true_eq, beq_iff_eq] at h
      simp only [Bool.or_eq_false_iff, beq_eq_false_iff_ne, ne_eq]
      omega
    refine ⟨hr hc, fun e => ?_⟩
    subst e; revert hc; decide
  have wl : ∀ (c : UInt8) (t : Str), w = c :: t → innerB c.toNat = true → gapS false (w ++ r) = 0 := by
    intro c t hw hc
    obtain ⟨h1, h2⟩ := inner c hc
    rw [hw, List.cons_append]
    exact noblank c _ h1 (fun h => h2 h.1)
  cases h with
  | name h =>
    simp only [isNameB, Bool.and_eq_true] at h
    obtain ⟨c, t, hw, hc, _, _⟩ := shaped_cons h.1
    exact wl c t hw (by unfold innerB; rw [hc]; rfl)
  | con h =>
    obtain ⟨c, t, hw, hc, _, _⟩ := shaped_cons h
    exact wl c t hw (by unfold innerB; rw [hc]; simp)
  | word h =>
    obtain ⟨h1, h2, h3, h4⟩ := words_tok w h
    obtain ⟨c, t, hw⟩ : ∃ c t, w = c :: t := by
      cases w with
      | nil => exact absurd rfl h4
      | cons c t => exact ⟨c, t, rfl⟩
    have hlow : lowerB c.toNat = true := by have := words_low w h; rw [hw] at this; exact this
    exact wl c t hw (by unfold innerB; rw [hlow]; rfl)
  | sign h =>
    simp only [signL, List.mem_cons, List.not_mem_nil, or_false] at h
    rcases hb with rfl | ⟨t, rfl⟩
    · rcases h with rfl | rfl | rfl | rfl | rfl | rfl | rfl | rfl | rfl | rfl | rfl | rfl | rfl | rfl | rfl | rfl | rfl | rfl <;> rfl
    · rcases h with rfl | rfl | rfl | rfl | rfl | rfl | rfl | rfl | rfl | rfl | rfl | rfl | rfl | rfl | rfl | rfl | rfl | rfl <;> rfl
  | int n h0 h1 =>
    obtain ⟨a, _, c⟩ := decB_pos h0 h1
    obtain ⟨d, t, hw⟩ : ∃ d t, decB n = d :: t := by
      cases hh : decB n with
      | nil => exact absurd hh c
      | cons d t => exact ⟨d, t, rfl⟩
    have hd : digitB d.toNat = true := by
      rw [hw] at a; unfold allDig at a
      rw [List.all_cons, Bool.and_eq_true] at a; exact a.1
    exact wl d t hw (by unfold innerB; rw [hd]; simp)
theorem tokW_strip (w : Str) : tokW w = strip (tokW w) := rfl
/-- Words with blanks between scan. -/
theorem scan_words : ∀ (ws : List Str) (pre : Str) (f : Nat), ws ≠ [] → Oks ws → ws.length < f → ∃ l e, scanF (pre ++ J ws) f pre.length = (some (l ++ [e]), 0) ∧ l.map strip = toks ws ∧ strip e = endT
  | [], _, _, h, _, _ => absurd rfl h
  | [w], pre, f, _, ho, hf => by
    have hw := ho w (by simp)
    obtain ⟨f, rfl⟩ : ∃ g, f = g + 2 := ⟨f - 2, by simp at hf; omega⟩
    have hd : (pre ++ J [w]).drop pre.length = w := by rw [List.drop_left]; rfl
    have hne : w ≠ [] := (wok_noB hw).1
    have hg : gapS false w = 0 := by have := gap_word hw (r := []) (.inl rfl); rwa [List.append_nil] at this
    have hx : lexT w = (tokW w, true) := by have := wok_lex hw (r := []) (.inl rfl); rwa [List.append_nil] at this
    have hlen : (pre ++ J [w]).length = pre.length + w.length := by rw [List.length_append]; rfl
    have hend : (pre ++ J [w]).drop (pre.length + w.length) = [] := List.drop_eq_nil_of_le (by rw [hlen]; exact Nat.le_refl _)
    have hwl : w.length ≠ 0 := fun e => hne (List.eq_nil_of_length_eq_zero e)
    refine ⟨[atP (pre ++ J [w]) pre.length (tokW w)], atP (pre ++ J [w]) (pre.length + w.length) endT, ?_, ?_, rfl⟩
    · have h2 : scanF (pre ++ J [w]) (f + 1) (pre.length + w.length) = (some [atP (pre ++ J [w]) (pre.length + w.length) endT], 0) := by
        rw [scanF, hend]
        have : gapS false ([] : Str) = 0 := rfl
        rw [this, Nat.add_zero, if_pos hlen.symm]
      rw [scanF, hd, hg, Nat.add_zero, if_neg (by rw [hlen]; omega), hd, hx]
      simp only [if_true]
      have ht : (tokW w).text = w := rfl
      rw [ht, h2]; rfl
    · simp only [List.map_cons, List.map_nil, strip_at _ _ _ (tokW_strip w)]; rfl
  | w :: v :: r, pre, f, _, ho, hf => by
    have hw := ho w (by simp)
    obtain ⟨f, rfl⟩ : ∃ g, f = g + 1 := ⟨f - 1, by simp at hf; omega⟩
    have hJ : J (w :: v :: r) = w ++ 32 :: J (v :: r) := J_cons w _ (by simp)
    have hd : (pre ++ J (w :: v :: r)).drop pre.length = w ++ 32 :: J (v :: r) := by rw [List.drop_left, hJ]
    have hne : w ≠ [] := (wok_noB hw).1
    have hg := gap_word hw (r := 32 :: J (v :: r)) (.inr ⟨_, rfl⟩)
    have hx := wok_lex hw (r := 32 :: J (v :: r)) (.inr ⟨_, rfl⟩)
    have hlen : (pre ++ J (w :: v :: r)).length = pre.length + (w.length + ((J (v :: r)).length + 1)) := by rw [List.length_append, hJ, List.length_append, List.length_cons]
    -- the next one begins behind a blank
    obtain ⟨l, e, h1, h2, h3⟩ := scan_words (v :: r) (pre ++ w ++ [32]) f (by simp) (fun z hz => ho z (by simp [hz])) (by simp at hf ⊢; omega)
    have hpre : pre ++ w ++ [32] ++ J (v :: r) = pre ++ J (w :: v :: r) := by rw [hJ]; simp
    rw [hpre] at h1
    have hv := ho v (by simp)
    have hgv : gapS false (J (v :: r)) = 0 := by
      cases r with
      | nil => have := gap_word hv (r := []) (.inl rfl); rwa [List.append_nil] at this
      | cons y r => rw [J_cons v _ (by simp)]; exact gap_word hv (.inr ⟨_, rfl⟩)
    have hd2 : (pre ++ J (w :: v :: r)).drop (pre.length + w.length) = 32 :: J (v :: r) := by
      rw [← List.drop_drop, List.drop_left, hJ, List.drop_left]
    have hd3 : (pre ++ J (w :: v :: r)).drop (pre.length + w.length + 1) = J (v :: r) := by
      rw [← List.drop_drop, hd2]; rfl
    -- a scan at the blank is one behind it
    have hsame : scanF (pre ++ J (w :: v :: r)) f (pre.length + w.length) = scanF (pre ++ J (w :: v :: r)) f (pre ++ w ++ [32]).length := by
      have hl2 : (pre ++ w ++ [32]).length = pre.length + w.length + 1 := by simp; omega
      rw [hl2]
      cases f with
      | zero => simp at hf
      | succ f =>
        have hg1 : gapS false ((pre ++ J (w :: v :: r)).drop (pre.length + w.length)) = 1 := by
          rw [hd2]
          show (if blankB ((32 : UInt8).toNat : Nat) = true then 1 + gapS false (J (v :: r)) else _) = 1
          rw [if_pos (by decide), hgv]
        have hg2 : gapS false ((pre ++ J (w :: v :: r)).drop (pre.length + w.length + 1)) = 0 := by rw [hd3, hgv]
        rw [scanF, scanF, hg1, hg2, Nat.add_zero]
    have hwl : w.length ≠ 0 := fun e => hne (List.eq_nil_of_length_eq_zero e)
    refine ⟨atP (pre ++ J (w :: v :: r)) pre.length (tokW w) :: l, e, ?_, ?_, h3⟩
    · rw [scanF, hd, hg, Nat.add_zero, if_neg (by rw [hlen]; omega), hd, hx]
      simp only [if_true]
      have ht : (tokW w).text = w := rfl
      rw [ht, hsame, h1]; rfl
    · simp only [List.map_cons, strip_at _ _ _ (tokW_strip w), h2]; rfl
end Go.Ab
/- The scanner: all tokens of a text. -/
namespace Go.Ab
open Go Go.Ab.Tab
set_option maxRecDepth 100000
set_option maxHeartbeats 4000000
set_option linter.unusedSimpArgs false
theorem leave_fin {n : Nat} {v v' : AVal} {h : AHeap} {d : List Nat} (hd : ∀ x ∈ d, n ≤ x) (hr : refs (strip3 v) = []) (hv : strip3 v = v') : some (CR.ret (leaveA n v h d).1 (leaveA n v h d).2) = some (CR.ret v' .same) := by
  rw [leave_clean n v h d hd hr, hv]
theorem token_c (text : Str) (hT : text.length ≤ 65536) (k : Nat) (hk : k < text.length) : C 52 [.ptr 0 0] [.box (scell text k)] =
    some (.ret (.tuple [.agg (atP text k (lexT (text.drop k)).1).cells, .bool (lexT (text.drop k)).2]) .same) := by
  have c1 : callA C [.box [.str text, .int .i64 k, .int .i64 (plc (text.take k)).1, .int .i64 (plc (text.take k)).2], .box [.int .i64 0, .str [], .int .i64 0, .int .i64 0, .int .i64 0]] 78 [.ptr 0 0] = some (.ret (.str (text.drop k)) .same) :=
    callA_oneR (c := C) (b := 0) (H := [.box (scell text k), .box noTok.cells]) (rest := []) rfl rfl rfl (rest_c text hT k (by omega)) rfl
  obtain ⟨c, r, hcr⟩ : ∃ c r, text.drop k = c :: r := by
    cases h : text.drop k with
    | nil =>
      have := congrArg List.length h
      rw [List.length_drop] at this; simp at this; omega
    | cons c r => exact ⟨c, r, rfl⟩
  have hl : (c :: r).length ≤ 65536 := by rw [← hcr, List.length_drop]; omega
  rw [hcr] at c1 ⊢
  have i0 : (c :: r)[0]? = some c := rfl
  have d1 := digit_c c.toNat
  have d2 := lower_c c.toNat
  have d3 := upper_c c.toNat
  have hsc : scell text k = [.str text, .int .i64 k, .int .i64 (plc (text.take k)).1, .int .i64 (plc (text.take k)).2] := rfl
  rw [hsc]
  obtain ⟨q, hq⟩ : ∃ q, q = lexT (c :: r) := ⟨_, rfl⟩
  rw [← hq]
  have hcl : q.1.cells = [.int .i64 q.1.sort, .str q.1.text, .int .i64 q.1.n, .int .i64 q.1.line, .int .i64 q.1.col] := rfl
  have hat : (atP text k q.1).cells = [.int .i64 q.1.sort, .str q.1.text, .int .i64 q.1.n, .int .i64 (plc (text.take k)).1, .int .i64 (plc (text.take k)).2] := rfl
  rw [hat]
  cases hd : digitB c.toNat
  · cases hlo : lowerB c.toNat
    · cases hu : upperB c.toNat
      · have e : lexT (c :: r) = signX (c :: r) := by simp only [lexT, hd, hlo, hu]; rfl
        have s1 := sign_c (c :: r) hl
        rw [← e, ← hq, hcl] at s1
        rw [C_fn rfl Go.Proofs.Tryz.func52 rfl (by kernel_rfl) (m := 40) rfl]; simp only [sims, core, pe, Nat.reduceAdd, Nat.reduceBEq, Int.reduceBEq, Int.reduceBNe, Int.reduceLT, Int.reduceLE, Go.Proofs.Tryz.f52, fx_52, ty, c1, i0, d1 _, d2 _, d3 _, hd, hlo, hu, s1 _]
        exact leave_fin (by simp [Eff.dirt]) rfl rfl
      · have e : lexT (c :: r) = (nameT (c :: r), decide ((wordD (c :: r)).length ≤ 24)) := by simp only [lexT, hd, hlo, hu]; rfl
        have s1 : Ret C 88 [.str (c :: r)] (.tuple [.agg (lexT (c :: r)).1.cells, .bool (lexT (c :: r)).2]) := by rw [e]; exact name_tok_c c r (by unfold innerB; rw [hlo, hu]; rfl) hl
        rw [← hq, hcl] at s1
        rw [C_fn rfl Go.Proofs.Tryz.func52 rfl (by kernel_rfl) (m := 40) rfl]; simp only [sims, core, pe, Nat.reduceAdd, Nat.reduceBEq, Int.reduceBEq, Int.reduceBNe, Int.reduceLT, Int.reduceLE, Go.Proofs.Tryz.f52, fx_52, ty, c1, i0, d1 _, d2 _, d3 _, hd, hlo, hu, s1 _]
        exact leave_fin (by simp [Eff.dirt]) rfl rfl
    · have e : lexT (c :: r) = (nameT (c :: r), decide ((wordD (c :: r)).length ≤ 24)) := by simp only [lexT, hd, hlo]; rfl
      have s1 : Ret C 88 [.str (c :: r)] (.tuple [.agg (lexT (c :: r)).1.cells, .bool (lexT (c :: r)).2]) := by rw [e]; exact name_tok_c c r (by unfold innerB; rw [hlo]; rfl) hl
      rw [← hq, hcl] at s1
      rw [C_fn rfl Go.Proofs.Tryz.func52 rfl (by kernel_rfl) (m := 40) rfl]; simp only [sims, core, pe, Nat.reduceAdd, Nat.reduceBEq, Int.reduceBEq, Int.reduceBNe, Int.reduceLT, Int.reduceLE, Go.Proofs.Tryz.f52, fx_52, ty, c1, i0, d1 _, d2 _, hd, hlo, s1 _]
      exact leave_fin (by simp [Eff.dirt]) rfl rfl
  · have e : lexT (c :: r) = (numT (c :: r), numOk (c :: r)) := by simp only [lexT, hd]; rfl
    have s1 : Ret C 85 [.str (c :: r)] (.tuple [.agg (lexT (c :: r)).1.cells, .bool (lexT (c :: r)).2]) := by rw [e]; exact number_c c r hd hl
    rw [← hq, hcl] at s1
    rw [C_fn rfl Go.Proofs.Tryz.func52 rfl (by kernel_rfl) (m := 40) rfl]; simp only [sims, core, pe, Nat.reduceAdd, Nat.reduceBEq, Int.reduceBEq, Int.reduceBNe, Int.reduceLT, Int.reduceLE, Go.Proofs.Tryz.f52, fx_52, ty, c1, i0, d1 _, hd, s1 _]
    exact leave_fin (by simp [Eff.dirt]) rfl rfl
/-- What a token takes. -/
theorem lex_len {s : Str} (h : (lexT s).2 = true) : 1 ≤ (lexT s).1.text.length ∧ (lexT s).1.text.length ≤ s.length := by
  cases s with
  | nil => cases h
  | cons c r =>
    cases hd : digitB c.toNat
    · cases hl : (lowerB c.toNat || upperB c.toNat)
      · have e : lexT (c :: r) = signX (c :: r) := by simp only [lexT, hd, hl]; rfl
        rw [e] at h ⊢
        unfold signX at h ⊢
        split at h
        · rename_i x hx
          have h1 := List.find?_some hx
          have h2 := List.mem_of_find?_eq_some hx
          unfold preB at h1
          simp only [Bool.and_eq_true, decide_eq_true_eq] at h1
          have : ∀ x ∈ signL', 1 ≤ x.length := by decide
          exact ⟨this x h2, h1.1⟩
        · cases h
      · have e : lexT (c :: r) = (nameT (c :: r), decide ((wordD (c :: r)).length ≤ 24)) := by simp only [lexT, hd, hl]; rfl
        rw [e]
        have hin : innerB c.toNat = true := by unfold innerB; rw [hl]; rfl
        show 1 ≤ (wordD (c :: r)).length ∧ (wordD (c :: r)).length ≤ _
        rw [wordD_len]
        refine ⟨?_, spanN_le _ _⟩
        simp only [spanN, hin, if_true]; omega
    · have e : lexT (c :: r) = (numT (c :: r), numOk (c :: r)) := by simp only [lexT, hd]; rfl
      rw [e]
      show 1 ≤ (numD (c :: r)).length ∧ (numD (c :: r)).length ≤ _
      rw [numD_len]
      refine ⟨?_, spanN_le _ _⟩
      simp only [spanN, hd, if_true]; omega
theorem gapS_le (b : Bool) (s : Str) : gapS b s ≤ s.length := by
  induction s generalizing b with
  | nil => cases b <;> exact Nat.le_refl _
  | cons c r ih =>
    have h1 := ih true
    have h2 := ih false
    cases b
    · simp only [gapS, List.length_cons]
      split
      · omega
      · split <;> omega
    · simp only [gapS, List.length_cons]
      split <;> omega
theorem scan_fuel (text : Str) : ∀ (f g k : Nat), text.length + 1 ≤ f + k → text.length + 1 ≤ g + k → k ≤ text.length → scanF text f k = scanF text g k := by
  intro f
  induction f with
  | zero => intro g k h1 _ h3; omega
  | succ f ih =>
    intro g k h1 h2 h3
    cases g with
    | zero => omega
    | succ g =>
      have hg := gapS_le false (text.drop k)
      rw [List.length_drop] at hg
      rw [scanF, scanF]
      by_cases he : k + gapS false (text.drop k) = text.length
      · rw [if_pos he, if_pos he]
      · rw [if_neg he, if_neg he]
        by_cases hx : (lexT (text.drop (k + gapS false (text.drop k)))).2 = true
        · obtain ⟨l1, l2⟩ := lex_len hx
          rw [List.length_drop] at l2
          rw [if_pos hx, if_pos hx, ih g _ (by omega) (by omega) (by omega)]
        · rw [if_neg hx, if_neg hx]
end Go.Ab
/- The scanner: Scan. -/
namespace Go.Ab
open Go Go.Ab.Tab
set_option maxRecDepth 100000
set_option maxHeartbeats 4000000
set_option linter.unusedSimpArgs false
def faultOf (text : Str) : Nat → PFault := fun k => ⟨2, (plc (text.take k)).1, (plc (text.take k)).2⟩
def scanV (text : Str) : AVal :=
  if 65536 < text.length then .tuple [.slice [] .free, .agg (PFault.cells ⟨9, 0, 0⟩)]
  else match scanF text (text.length + 1) 0 with
    | (some l, _) => .tuple [.slice (l.map PTok.cells) .free, .agg (PFault.cells ⟨0, 0, 0⟩)]
    | (none, k) => .tuple [.slice [] .free, .agg (faultOf text k).cells]
/-- What has been read and what is still to come. -/
def scanD (text : Str) (acc : List PTok) (k : Nat) : Option (List PTok) × Nat := match scanF text (text.length + 1) k with
  | (some l, _) => (some (acc ++ l), 0)
  | (none, p) => (none, p)
theorem scan_big (text : Str) (hT : 65536 < text.length) (hl : text.length ≤ lenTop) : Ret C 26 [.str text] (scanV text) := by
  refine Ret.mk rfl (by unfold scanV; rw [if_pos hT]; rfl) ?_
  unfold scanV
  rw [if_pos hT]
  have h1 : decide ((65536 : Int) < (text.length : Int)) = true := decide_eq_true (by omega)
  rw [C_fn rfl Go.Proofs.Tryz.func26 rfl (by kernel_rfl) (m := 61) rfl]; simp only [sims, core, pe, Nat.reduceAdd, Nat.reduceBEq, Int.reduceBEq, Int.reduceBNe, Int.reduceLT, Int.reduceLE, Go.Proofs.Tryz.f26, fx_26, ty, hl, h1]
  exact leave_fin (by simp [Eff.dirt]) rfl rfl
theorem tok5 (l : List PTok) : ∀ c ∈ l.map PTok.cells, c.length = 5 := by
  intro c hc
  obtain ⟨t, _, rfl⟩ := List.mem_map.1 hc
  rfl
theorem grow_set {h : AHeap} {v : AVal} {es : List (List AVal)} {T : TypeId} (g : Grow h v es T) {b : Nat} {x y : List AVal} (hb : h[b]? = some (.box x)) : Grow (h.set b (.box y)) v es T := by
  rcases g with g | ⟨t, hv, ht⟩
  · exact .inl g
  · refine .inr ⟨t, hv, ?_⟩
    have hne : b ≠ t := fun e => by rw [e, ht] at hb; cases hb
    rw [List.getElem?_set_ne hne]; exact ht
theorem scan_c (text : Str) (hT : text.length ≤ 65536) : Ret C 26 [.str text] (scanV text) := by
  have hv : refs (scanV text) = [] := by
    unfold scanV; split
    · rfl
    · split <;> rfl
  refine Ret.mk rfl hv ?_
  have h1 : decide ((65536 : Int) < (text.length : Int)) = false := decide_eq_false (by omega)
  have hl0 : text.length ≤ lenTop := by unfold lenTop; omega
  have hs0 : [AVal.str text, .int .i64 0, .int .i64 1, .int .i64 1] = scell text 0 := by unfold scell; rw [List.take_zero]; rfl
  rw [C_fn rfl Go.Proofs.Tryz.func26 rfl (by kernel_rfl) (m := 61) rfl]; simp only [sims, core, pe, Nat.reduceAdd, Nat.reduceBEq, Int.reduceBEq, Int.reduceBNe, Int.reduceLT, Int.reduceLE, Go.Proofs.Tryz.f26, fx_26, ty, hl0, h1]
  rw [hs0]
  generalize hb : codeB PP cmp0 C lpC _ = f; generalize hl : lpC f _ = r
  obtain ⟨ex, s', rfl, h2⟩ := lpC_inv (α := Nat × List PTok × AVal) hl [2, 6, 7, 15, 16, 17, 18, 19, 20, 21, 22, 23, 24, 25, 26, 27, 28, 29, 30, 31, 32, 33, 34, 35, 36, 37, 38, 39, 40, 41, 42, 43, 44, 45, 46, 47, 48, 49, 50, 51, 52, 53, 54, 55, 56, 57, 58, 59, 60, 61] (fun a => [(5, a.2.2)]) (fun a h => h[0]? = some (.box (PFault.cells ⟨0, 0, 0⟩)) ∧ h[1]? = some (.box (scell text a.1)) ∧ Grow h a.2.2 (a.2.1.map PTok.cells) 85 ∧ a.1 ≤ text.length ∧ a.2.1.length ≤ a.1) (fun a => text.length - a.1) (fun a => scanD text a.2.1 a.1)
    (fun ts r ex s => ex = .ret ∧ ∃ es tk fl, s.tmps[2]? = some (.slice es tk) ∧ s.tmps[3]? = some (.ptr 0 0) ∧ s.heap[0]? = some (.box (PFault.cells fl)) ∧ es = (match r.1 with | some l => l.map PTok.cells | none => []) ∧ fl = (match r.1 with | some _ => ⟨0, 0, 0⟩ | none => faultOf text r.2)) (0, [], .slice [] .full) ⟨rfl, rfl, .inl ⟨rfl, rfl⟩, Nat.zero_le _, Nat.le_refl _⟩ (by simp only [AtT, ats, Int.natCast_zero]) (by
      rintro ⟨k, acc, v⟩ j h d ⟨q0, q1, hg, hk, hacc⟩
      clear hl; subst hb
      simp only at q0 q1 hg hk hacc ⊢
      obtain ⟨E1, hE1, hh1⟩ := callA_one keepC (b := 1) (H := h) (rest := []) rfl q1 rfl rfl (blanks_c text hT k hk) rfl
      obtain ⟨k1, hk1⟩ : ∃ k1, k1 = k + gapS false (text.drop k) := ⟨_, rfl⟩
      rw [← hk1] at hh1
      have hk1l : k1 ≤ text.length := by have := gapS_le false (text.drop k); rw [List.length_drop] at this; omega
      have l1 := (List.getElem?_eq_some_iff.1 q1).1
      obtain ⟨g1, hg1⟩ : ∃ g1, g1 = h.set 1 (.box (scell text k1)) := ⟨_, rfl⟩
      rw [← hg1] at hh1
      have p0 : g1[0]? = some (.box (PFault.cells ⟨0, 0, 0⟩)) := by rw [hg1, List.getElem?_set_ne (by decide)]; exact q0
      have p1 : g1[1]? = some (.box (scell text k1)) := by rw [hg1, List.getElem?_set_self l1]
      have p1' : g1[1]? = some (.box [.str text, .int .i64 k1, .int .i64 (plc (text.take k1)).1, .int .i64 (plc (text.take k1)).2]) := p1
      have gg1 := grow_set (y := scell text k1) hg q1
      rw [← hg1] at gg1
      have hlen : decide (1 < g1.length) = true := decide_eq_true (List.getElem?_eq_some_iff.1 p1).1
      have hlen0 : decide (0 < g1.length) = true := decide_eq_true (List.getElem?_eq_some_iff.1 p0).1
      by_cases he : k1 = text.length
      · have he' : ((k1 : Int) == (text.length : Int)) = true := by rw [he]; exact beq_self_eq_true _
        obtain ⟨v1, E2, ha1, hg2, hB2⟩ := app_grow ao_41 (fs := [[.int .i64 6, .str [], .int .i64 0, .int .i64 (plc (text.take k1)).1, .int .i64 (plc (text.take k1)).2]]) gg1 (by simp; unfold lenTop; omega) (tok5 acc) (by intro c hc; simp only [List.mem_cons, List.not_mem_nil, or_false] at hc; subst hc; rfl) (by simp)
        have r0 := hB2 _ _ p0
        have hden : scanD text acc k = (some (acc ++ [atP text k1 endT]), 0) := by
          unfold scanD
          rw [scanF, ← hk1, if_pos he]
        obtain ⟨tk, hv1⟩ : ∃ tk, v1 = .slice (acc.map PTok.cells ++ [[.int .i64 6, .str [], .int .i64 0, .int .i64 (plc (text.take k1)).1, .int .i64 (plc (text.take k1)).2]]) tk := by
          rcases hg2 with ⟨h1, _⟩ | ⟨t, h1, _⟩
          · simp at h1
          · exact ⟨_, h1⟩
        have z0 : ∀ (H : AHeap) (x y : List AVal), H[0]? = some (.box x) → (H.set 0 (.box y))[0]? = some (.box y) := fun H x y h => List.getElem?_set_self (List.getElem?_eq_some_iff.1 h).1
        simp only [sims, core, pe, Nat.reduceAdd, Nat.reduceBEq, Int.reduceBEq, Int.reduceBNe, Int.reduceLT, Int.reduceLE, effs, fx_26, ty, hE1, hh1, p1', hl0, he', hlen, hlen0, ha1, r0, hden]
        refine .inr ⟨_, _, rfl, by simp, rfl, _, tk, ⟨0, 0, 0⟩, by rw [hv1]; rfl, rfl, z0 _ _ _ r0, ?_, rfl⟩
        simp only [List.map_append]; rfl
      · have he' : ((k1 : Int) == (text.length : Int)) = false := by simp; omega
        obtain ⟨q, hq⟩ : ∃ q, q = lexT (text.drop k1) := ⟨_, rfl⟩
        have tkc := callA_oneR (c := C) (b := 1) (H := g1) (rest := []) rfl p1 rfl (token_c text hT k1 (by omega)) rfl
        rw [← hq] at tkc
        have hat : (atP text k1 q.1).cells = [.int .i64 q.1.sort, .str q.1.text, .int .i64 q.1.n, .int .i64 (plc (text.take k1)).1, .int .i64 (plc (text.take k1)).2] := rfl
        rw [hat] at tkc
        obtain ⟨tc, htc⟩ : ∃ tc, tc = [AVal.int .i64 q.1.sort, .str q.1.text, .int .i64 q.1.n, .int .i64 (plc (text.take k1)).1, .int .i64 (plc (text.take k1)).2] := ⟨_, rfl⟩
        obtain ⟨G, hG⟩ : ∃ G, G = g1 ++ [Blk.box [AVal.int .i64 q.1.sort, .str q.1.text, .int .i64 q.1.n, .int .i64 (plc (text.take k1)).1, .int .i64 (plc (text.take k1)).2]] := ⟨_, rfl⟩
        have G0 : G[0]? = some (.box (PFault.cells ⟨0, 0, 0⟩)) := by rw [hG]; exact Boxes.app _ _ _ _ p0
        have G1 : G[1]? = some (.box [.str text, .int .i64 k1, .int .i64 (plc (text.take k1)).1, .int .i64 (plc (text.take k1)).2]) := by rw [hG]; exact Boxes.app _ _ _ _ p1'
        have Gt : G[g1.length]? = some (.box [AVal.int .i64 q.1.sort, .str q.1.text, .int .i64 q.1.n, .int .i64 (plc (text.take k1)).1, .int .i64 (plc (text.take k1)).2]) := by rw [hG]; simp
        have Gl : G.length = g1.length + 1 := by rw [hG]; simp
        have gG := gg1.app [Blk.box [AVal.int .i64 q.1.sort, .str q.1.text, .int .i64 q.1.n, .int .i64 (plc (text.take k1)).1, .int .i64 (plc (text.take k1)).2]]
        rw [← hG] at gG
        cases hok : q.2
        · have hden : scanD text acc k = (none, k1) := by
            unfold scanD
            rw [scanF, ← hk1, if_neg he, ← hq, hok, if_neg (by decide)]
          have z0 : ∀ (H : AHeap) (x y : List AVal), H[0]? = some (.box x) → (H.set 0 (.box y))[0]? = some (.box y) := fun H x y h => List.getElem?_set_self (List.getElem?_eq_some_iff.1 h).1
          simp only [sims, core, pe, Nat.reduceAdd, Nat.reduceBEq, Int.reduceBEq, Int.reduceBNe, Int.reduceLT, Int.reduceLE, effs, fx_26, ty, hE1, hh1, p1', hl0, he', tkc, hok, ← hG, G0, G1, Gl, hlen, hlen0, hden]
          refine .inr ⟨_, _, rfl, by simp, rfl, [], .full, faultOf text k1, rfl, rfl, z0 _ _ _ G0, rfl, rfl⟩
        · have hsz := lex_len (s := text.drop k1) (by rw [← hq]; exact hok)
          rw [← hq, List.length_drop] at hsz
          obtain ⟨v1, E2, ha1, hg2, hB2⟩ := app_grow ao_41 (fs := [[AVal.int .i64 q.1.sort, .str q.1.text, .int .i64 q.1.n, .int .i64 (plc (text.take k1)).1, .int .i64 (plc (text.take k1)).2]]) gG (by simp; unfold lenTop; omega) (tok5 acc) (by intro c hc; simp only [List.mem_cons, List.not_mem_nil, or_false] at hc; subst hc; rfl) (by simp)
          have r0 := hB2 _ _ G0
          have r1 := hB2 _ _ G1
          have rt := hB2 _ _ Gt
          obtain ⟨E3, hE3, hh3⟩ := callA_one keepC (b := 1) (H := E2.of G) (rest := [.int .i64 q.1.text.length]) rfl r1 rfl rfl (skip_c text hT k1 q.1.text.length (by omega)) rfl
          have htl : q.1.text.length ≤ lenTop := by unfold lenTop; omega
          have hden : scanD text acc k = scanD text (acc ++ [atP text k1 q.1]) (k1 + q.1.text.length) := by
            unfold scanD
            rw [scanF, ← hk1, if_neg he, ← hq, hok, if_pos rfl, scan_fuel text text.length (text.length + 1) (k1 + q.1.text.length) (by omega) (by omega) (by omega)]
            cases hs : scanF text (text.length + 1) (k1 + q.1.text.length) with
            | mk o p => cases o <;> simp
          simp only [sims, core, pe, Nat.reduceAdd, Nat.reduceBEq, Int.reduceBEq, Int.reduceBNe, Int.reduceLT, Int.reduceLE, effs, fx_26, ty, hE1, hh1, p1', hl0, he', tkc, hok, ← hG, G0, G1, Gl, Gt, hlen, hlen0, ha1, rt, htl, hE3, hh3]
          refine .inl ⟨(k1 + q.1.text.length, acc ++ [atP text k1 q.1], v1), _, rfl, ⟨?_, ?_, ?_, by simp only []; omega, by simp only [List.length_append, List.length_cons, List.length_nil]; omega⟩, by simp only [AtT, ats, Int.natCast_zero], by simp only []; omega, hden.symm⟩
          · show ((E2.of G).set 1 _)[0]? = _
            rw [List.getElem?_set_ne (by decide)]; exact r0
          · show ((E2.of G).set 1 _)[1]? = _
            exact List.getElem?_set_self (List.getElem?_eq_some_iff.1 r1).1
          · have hm : (acc ++ [atP text k1 q.1]).map PTok.cells = acc.map PTok.cells ++ [[AVal.int .i64 q.1.sort, .str q.1.text, .int .i64 q.1.n, .int .i64 (plc (text.take k1)).1, .int .i64 (plc (text.take k1)).2]] := by rw [List.map_append]; rfl
            show Grow ((E2.of G).set 1 _) v1 ((acc ++ [atP text k1 q.1]).map PTok.cells) _
            rw [hm]
            exact grow_set hg2 r1)
  obtain ⟨rfl, es, tk, fl, t2, t3, q0, rfl, rfl⟩ := h2
  clear hl
  simp only [sims, core, pe, Nat.reduceAdd, Nat.reduceBEq, Int.reduceBEq, Int.reduceBNe, Int.reduceLT, Int.reduceLE, effs, fx_26, ty, t2, t3, q0]
  rw [leave_pure1 _ _ _ rfl, leave_pure2 _ _ _ rfl]
  unfold scanV scanD
  rw [if_neg (by omega)]
  cases hs : scanF text (text.length + 1) 0 with
  | mk o p => cases o <;> rfl
end Go.Ab
