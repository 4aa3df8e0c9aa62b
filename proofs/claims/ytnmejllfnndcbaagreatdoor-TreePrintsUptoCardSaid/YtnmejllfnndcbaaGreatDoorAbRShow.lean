/- The reference: an expression's text. -/
import Derived.Test.YtnmejllfnndcbaaGreatDoorAbTxt
import Derived.Test.YtnmejllfnndcbaaGreatDoorAbBox
set_option linter.unusedSimpArgs false
set_option linter.unusedVariables false
namespace Go.Ab
open Go Go.Ab.Tab
set_option maxRecDepth 100000
set_option maxHeartbeats 4000000
set_option linter.unusedSimpArgs false
theorem kW_ne (e : PExpr) (i : Nat) : kW (e.kids.map PExpr.words) i ≠ [] := by
  unfold kW
  cases h : (e.kids.map PExpr.words)[i]? with
  | none => simp
  | some x =>
    obtain ⟨k, _, rfl⟩ := List.mem_map.1 (List.mem_of_getElem? h)
    exact words_ne k
def kidS (e : PExpr) : List Str := e.kids.map fun x => J x.words
def ks3 (l : List Str) : List Str := l ++ List.replicate (3 - l.length) [63]
theorem ks3_long (l : List Str) (h : ¬ l.length < 3) : ks3 l = l := by unfold ks3; rw [show 3 - l.length = 0 by omega]; simp
theorem ks3_short (l : List Str) (h : l.length < 3) : ks3 (l ++ [[63]]) = ks3 l := by
  unfold ks3
  rw [List.length_append, List.append_assoc]
  congr 1
  rw [show 3 - l.length = (3 - (l.length + [([63] : Str)].length)) + 1 by simp only [List.length_cons, List.length_nil]; omega, List.replicate_succ]
  rfl
theorem ks3_len (l : List Str) : 3 ≤ (ks3 l).length := by unfold ks3; simp only [List.length_append, List.length_replicate]; omega
theorem ks3_get (e : PExpr) (i : Nat) (hi : i < 3) : (ks3 (kidS e))[i]? = some (J (kW (e.kids.map PExpr.words) i)) := by
  unfold ks3 kidS kW
  by_cases h : i < e.kids.length
  · rw [List.getElem?_append_left (by simpa using h)]
    simp [h]
  · rw [List.getElem?_append_right (by simpa using h)]
    simp only [List.length_map, List.getElem?_replicate, List.getElem?_map]
    rw [if_pos (by omega), List.getElem?_eq_none (by omega)]
    rfl
theorem encS_get (l : List Str) (i : Nat) (s : Str) (h : l[i]? = some s) : (encS l)[i]? = some [.str s] := by simp [encS, h]
theorem sumT_bulk (e : PExpr) : sumT (e.kids.map PExpr.words) ≤ 40 * e.bulk := by
  cases e with
  | mk op name n cons kids =>
    simp only [PExpr.kids, PExpr.bulk]
    have : sumT (kids.map PExpr.words) ≤ 40 * PExpr.bulkL kids := by
      induction kids with
      | nil => simp [sumT]
      | cons x r ih =>
        have := words_T x
        simp only [sumT, List.map_cons, List.sum_cons, PExpr.bulkL] at ih ⊢
        omega
    omega
theorem stepD_eff (ask : Eff → Bool) (v : AVal) (f : Eff) (d : Tmp) (ts : List AVal) (h : AHeap) (dd : List Nat) (k : St → Option (AEx × St)) : stepB true ask (some (.val v f)) (some d) ⟨ts, h, dd⟩ k = ifB (ask f) (k ⟨ts.set d v, f.of h, f.dirt ++ dd⟩) := rfl
theorem callA_tk2 {f : FuncId} {es : List (List AVal)} {tk : Tk} {s v : AVal} {H : AHeap} (hs : refs s = []) (hren : ∀ σ, ren σ s = s) (c : ∀ tk B, (∀ t, tk = .own t → ∃ k e, B[t]? = some (.tok k e)) → C f [.slice es tk, s] B = some (.ret v .same)) (hv : refs v = []) (ht : ∀ t, tk = .own t → ∃ k e, H[t]? = some (.tok k e)) :
    callA C H f [.slice es tk, s] = some (.ret v .same) := by
  cases tk with
  | free => exact callA_idx [] (by simp [refsL, refs, hs, reach]) (by simp [subOk, refsL, refs, hs]) (by simp only [renL, ren, hren]; exact c _ _ (fun t h => by cases h)) hv
  | full => exact callA_idx [] (by simp [refsL, refs, hs, reach]) (by simp [subOk, refsL, refs, hs]) (by simp only [renL, ren, hren]; exact c _ _ (fun t h => by cases h)) hv
  | own t =>
    obtain ⟨k, e, hk⟩ := ht t rfl
    refine callA_idx [t] (by simp [refsL, refs, hs, reach, hk]) (by simp [subOk, refsL, refs, hs, hk, blkRefs]) ?_ hv
    simp only [renL, ren, hren]
    refine c _ _ (fun t' h => ?_)
    have h0 : t' = 0 := by simp at h; exact h.symm
    subst h0
    exact ⟨k, e, by simp [subH, hk, List.getD_eq_getElem?_getD, renB]⟩
theorem consT_eq (l : List Str) : T l = consT l := by
  induction l with
  | nil => rfl
  | cons x r ih => simp only [T, consT, sumOf] at ih ⊢; omega
theorem cons_bulk (e : PExpr) : consT e.cons + e.name.length + e.kids.length ≤ e.bulk := by
  cases e with
  | mk op name n cons kids =>
    simp only [PExpr.cons, PExpr.name, PExpr.kids, PExpr.bulk]
    have : kids.length ≤ PExpr.bulkL kids := by
      induction kids with
      | nil => simp [PExpr.bulkL]
      | cons x r ih =>
        have h3 : 1 ≤ x.bulk := by cases x; simp only [PExpr.bulk]; omega
        simp only [PExpr.bulkL, List.length_cons]; omega
    unfold consT; omega
theorem listW_J (l : List Str) (s : Str) : LS s l = J (listW l s) := by
  have h := LS_J s (l.map fun x => [x]) (by intro x hx; obtain ⟨y, _, rfl⟩ := List.mem_map.1 hx; simp)
  rw [List.map_map] at h
  have : (J ∘ fun x : Str => [x]) = id := by funext x; rfl
  rw [this, List.map_id] at h
  exact h
theorem listW_ne (l : List Str) (s : Str) (h : ¬ l.length = 0) : listW l s ≠ [] := by
  cases l with
  | nil => exact absurd rfl h
  | cons x r => simp [listW, sepW]
theorem rshow_loop (e : PExpr) (hs : e.Small) (hn : i64ok e.n) (hbk : e.bulk ≤ 1048576) (ih : ∀ x ∈ e.kids, Ret C 22 [.agg x.cells] (.str (J x.words))) : Ret C 22 [.agg e.cells] (.str (J e.words)) := by
  refine Ret.mk (by simp [refsL, refs, e.norefs]) rfl ?_
  have hl1 := hs.kids.1
  have m1 : strMax = 4611686018427387904 := rfl
  have m2 : lenTop = 1099511627776 := rfl
  have hT := words_T e
  rw [C_fn rfl Go.Proofs.Tryz.func22 rfl (by kernel_rfl) (m := 219) rfl]; simp only [sims, core, pe, Nat.reduceAdd, Int.reduceBEq, Int.reduceBNe, Int.reduceLT, Int.reduceLE, Go.Proofs.Tryz.f22, fx_22]
  generalize hb : codeB PP cmp0 C lpC _ = f; generalize hl : lpC f _ = r
  obtain ⟨ex, s', rfl, rfl, v', h2⟩ := lpC_inv (α := Nat × AVal) hl [9, 10, 11, 12, 13, 14, 15, 16, 17, 18, 19, 20, 21, 22, 23, 24] (fun a => [(4, .int .i64 a.1), (3, a.2)]) (fun a h => a.1 ≤ e.kids.length ∧ Grow h a.2 (encS ((kidS e).take a.1)) 9 ∧ h[0]? = some (.box e.cells)) (fun a => e.kids.length - a.1) (fun _ => ())
    (fun ts _ ex s => ex = .exit 0 ∧ ∃ v, OutT [4, 9, 10, 11, 12, 13, 14, 15, 16, 17, 18, 19, 20, 21, 22, 23, 24] ts [(3, v)] (fun h => Grow h v (encS (kidS e)) 9 ∧ h[0]? = some (.box e.cells)) s) (0, .slice [] .full) ⟨Nat.zero_le _, .inl ⟨rfl, rfl⟩, rfl⟩ (by simp only [AtT, ats, Int.natCast_zero]) (by
      rintro ⟨i, v⟩ j h d ⟨hi, hg, q0⟩
      clear hl; subst hb
      simp only at hi hg
      by_cases hlt : i < e.kids.length
      · have e1 : ((i : Int) < (e.kids.length : Int)) := by omega
        have e3 := kids_get e.kids i hlt
        have c1 := ih e.kids[i] (List.getElem_mem hlt)
        obtain ⟨v1, E1, ha1, hg1, hB1⟩ := app_grow ao_33 (fs := [[.str (J e.kids[i].words)]]) hg (by rw [encS_len]; simp [kidS]; omega) (encS_one _) (by intro c hc; simp only [List.mem_cons, List.not_mem_nil, or_false] at hc; subst hc; rfl) (by simp)
        have htk : (kidS e).take (i + 1) = (kidS e).take i ++ [J e.kids[i].words] := by
          rw [List.take_succ_eq_append_getElem (by simpa [kidS] using hlt)]; simp [kidS]
        simp only [sims, core, pe, Nat.reduceAdd, Int.reduceBEq, Int.reduceBNe, Int.reduceLT, Int.reduceLE, effs, fx_22, e1, e3, q0, c1 _, ha1, wrap_nat (show i ≤ lenTop by omega)]
        exact .inl ⟨(i + 1, v1), _, rfl, ⟨hlt, by rw [htk, encS_app]; exact hg1, hB1 _ _ q0⟩, by simp only [AtT, ats, Int.natCast_zero], by (try simp only []); omega, by first | rfl | trivial⟩
      · have e1 : ¬ ((i : Int) < (e.kids.length : Int)) := by omega
        simp only [sims, core, pe, Nat.reduceAdd, Int.reduceBEq, Int.reduceBNe, Int.reduceLT, Int.reduceLE, effs, fx_22, e1, q0]
        have : (kidS e).take i = kidS e := List.take_of_length_le (by simp [kidS]; omega)
        rw [this] at hg
        exact .inr ⟨_, _, rfl, by simp, rfl, v, by simp only [AtT, ats], hg, q0⟩)
  obtain ⟨j, H, d, ⟨hg, q0⟩, rfl⟩ := h2.elim
  clear hl
  simp only [sims, core, pe, Nat.reduceAdd, Int.reduceBEq, Int.reduceBNe, Int.reduceLT, Int.reduceLE, effs, fx_22, q0]
  generalize hb : codeB PP cmp0 C lpC _ = f; generalize hl : lpC f _ = r
  obtain ⟨ex, s', rfl, rfl, v2, h2⟩ := lpC_inv (α := List Str × AVal) hl [25, 26, 27, 28, 29, 30] (fun a => [(3, a.2)]) (fun a h => Grow h a.2 (encS a.1) 9 ∧ ks3 a.1 = ks3 (kidS e) ∧ h[0]? = some (.box e.cells)) (fun a => 3 - a.1.length) (fun _ => ())
    (fun ts _ ex s => ex = .exit 2 ∧ ∃ v, OutT [25, 26, 27, 28, 29, 30] ts [(3, v)] (fun h => Grow h v (encS (ks3 (kidS e))) 9 ∧ h[0]? = some (.box e.cells)) s) (kidS e, v') ⟨hg, rfl, q0⟩ (by simp only [AtT, ats]) (by
      rintro ⟨ss, v⟩ j h d ⟨hg, hk, q0⟩
      clear hl; subst hb
      simp only at hg hk
      obtain ⟨tk, rfl⟩ : ∃ tk, v = .slice (encS ss) tk := by
        rcases hg with ⟨h1, h2⟩ | ⟨t, h1, _⟩
        · exact ⟨_, by rw [h2]; exact congrArg (fun l => AVal.slice l .full) h1.symm⟩
        · exact ⟨_, h1⟩
      have hn' : (encS ss).length = ss.length := encS_len ss
      by_cases hlt : ss.length < 3
      · have e1 : ((ss.length : Int) < 3) := by omega
        obtain ⟨v1, E1, ha1, hg1, hB1⟩ := app_grow ao_33 (fs := [[.str [63]]]) hg (by rw [encS_len]; simp; omega) (encS_one _) (by intro c hc; simp only [List.mem_cons, List.not_mem_nil, or_false] at hc; subst hc; rfl) (by simp)
        simp only [sims, core, pe, Nat.reduceAdd, Int.reduceBEq, Int.reduceBNe, Int.reduceLT, Int.reduceLE, effs, fx_22, hn', e1, q0, ha1]
        exact .inl ⟨(ss ++ [[63]], v1), _, rfl, ⟨by rw [encS_app]; exact hg1, by rw [ks3_short _ hlt]; exact hk, hB1 _ _ q0⟩, by simp only [AtT, ats], by (try simp only [List.length_append, List.length_cons, List.length_nil]); omega, by first | rfl | trivial⟩
      · have e1 : ¬ ((ss.length : Int) < 3) := by omega
        simp only [sims, core, pe, Nat.reduceAdd, Int.reduceBEq, Int.reduceBNe, Int.reduceLT, Int.reduceLE, effs, fx_22, hn', e1, q0]
        rw [ks3_long _ hlt] at hk
        exact .inr ⟨_, _, rfl, by simp, rfl, .slice (encS ss) tk, by simp only [AtT, ats], by rw [← hk]; exact hg, q0⟩)
  obtain ⟨j2, H2, d2, ⟨hg2, q2⟩, rfl⟩ := h2.elim
  clear hl
  obtain ⟨t, rfl, ht⟩ : ∃ t, v2 = .slice (encS (ks3 (kidS e))) (.own t) ∧ H2[t]? = some (.tok (encS (ks3 (kidS e))).length 9) := by
    rcases hg2 with ⟨h1, _⟩ | ⟨t, h1, h2⟩
    · have := congrArg List.length h1
      have h3 := ks3_len (kidS e)
      rw [encS_len] at this
      simp only [List.length_nil] at this
      omega
    · exact ⟨t, h1, h2⟩
  have hk0 := encS_get _ _ _ (ks3_get e 0 (by omega))
  have hk1 := encS_get _ _ _ (ks3_get e 1 (by omega))
  have hk2 := encS_get _ _ _ (ks3_get e 2 (by omega))
  have n0 := kW_ne e 0
  have n1 := kW_ne e 1
  have n2 := kW_ne e 2
  have hkT := kW_T (e.kids.map PExpr.words)
  have g0 := J_len (kW (e.kids.map PExpr.words) 0)
  have g1 := J_len (kW (e.kids.map PExpr.words) 1)
  have g2 := J_len (kW (e.kids.map PExpr.words) 2)
  have hnm := hs.name
  have hsb := sumT_bulk e
  have hpos : decide (0 < H2.length) = true := decide_eq_true (List.getElem?_eq_some_iff.1 q2).1
  have hJ := J_len e.words
  generalize hA : J (kW (e.kids.map PExpr.words) 0) = A at *
  generalize hB : J (kW (e.kids.map PExpr.words) 1) = B at *
  generalize hC : J (kW (e.kids.map PExpr.words) 2) = Cc at *
  by_cases h1 : e.op = 1
  · have hwd : e.words = [decB e.n] := by rw [words_eq, h1]; rfl
    have c1 := fmtInt_c e.n hn
    simp only [sims, core, pe, Nat.reduceAdd, Int.reduceBEq, Int.reduceBNe, Int.reduceLT, Int.reduceLE, effs, fx_22, q2, hpos, h1, c1 _, hk0, hk1, hk2]
    rw [hwd]; rfl
  by_cases h2 : e.op = 2
  · have hwd : e.words = [boolW (e.n == 1)] := by rw [words_eq, h2]; rfl
    simp only [sims, core, pe, Nat.reduceAdd, Int.reduceBEq, Int.reduceBNe, Int.reduceLT, Int.reduceLE, effs, fx_22, q2, hpos, h2, hk0, hk1, hk2]
    cases hq : e.n == 1
    · simp only [sims, core, pe, Nat.reduceAdd, Int.reduceBEq, Int.reduceBNe, Int.reduceLT, Int.reduceLE, effs, fx_22, hq]
      rw [hwd, hq]; rfl
    · simp only [sims, core, pe, Nat.reduceAdd, Int.reduceBEq, Int.reduceBNe, Int.reduceLT, Int.reduceLE, effs, fx_22, hq]
      rw [hwd, hq]; rfl
  by_cases h3 : e.op = 3
  · have hwd : e.words = [e.name] := by rw [words_eq, h3]; rfl
    simp only [sims, core, pe, Nat.reduceAdd, Int.reduceBEq, Int.reduceBNe, Int.reduceLT, Int.reduceLE, effs, fx_22, q2, hpos, h3, hk0, hk1, hk2]
    rw [hwd]; rfl
  by_cases h4 : e.op = 4
  · have hwd : e.words = [e.name] := by rw [words_eq, h4]; rfl
    simp only [sims, core, pe, Nat.reduceAdd, Int.reduceBEq, Int.reduceBNe, Int.reduceLT, Int.reduceLE, effs, fx_22, q2, hpos, h4, hk0, hk1, hk2]
    rw [hwd]; rfl
  by_cases h5 : e.op = 5
  · have hwd : e.words = [[40], e.name] ++ kW (e.kids.map PExpr.words) 0 ++ [[41]] := by rw [words_eq, h5]; rfl
    simp only [sims, core, pe, Nat.reduceAdd, Int.reduceBEq, Int.reduceBNe, Int.reduceLT, Int.reduceLE, effs, fx_22, q2, hpos, h5, hk0, hk1, hk2]
    rw [bin_cat]
    case hl => ((try simp only [List.length_append, List.length_cons, List.length_nil]); omega)
    simp only [sims, core, pe, Nat.reduceAdd, Int.reduceBEq, Int.reduceBNe, Int.reduceLT, Int.reduceLE, effs, fx_22, hk0, hk1, hk2, q2, hpos]
    rw [bin_cat]
    case hl => ((try simp only [List.length_append, List.length_cons, List.length_nil]); omega)
    simp only [sims, core, pe, Nat.reduceAdd, Int.reduceBEq, Int.reduceBNe, Int.reduceLT, Int.reduceLE, effs, fx_22, hk0, hk1, hk2, q2, hpos]
    rw [bin_cat]
    case hl => ((try simp only [List.length_append, List.length_cons, List.length_nil]); omega)
    simp only [sims, core, pe, Nat.reduceAdd, Int.reduceBEq, Int.reduceBNe, Int.reduceLT, Int.reduceLE, effs, fx_22, hk0, hk1, hk2, q2, hpos]
    rw [bin_cat]
    case hl => ((try simp only [List.length_append, List.length_cons, List.length_nil]); omega)
    simp only [sims, core, pe, Nat.reduceAdd, Int.reduceBEq, Int.reduceBNe, Int.reduceLT, Int.reduceLE, effs, fx_22, hk0, hk1, hk2, q2, hpos]
    rw [hwd]
    try simp only [btwW]
    simp only [J_one, J_cons, J_app, n0, n1, n2, hA, hB, hC, List.cons_append, List.nil_append, List.append_assoc, ne_eq, List.cons_ne_nil, List.append_eq_nil_iff, and_false, false_and, not_false_eq_true]
  by_cases h6 : e.op = 6
  · have hwd : e.words = btwW (kW (e.kids.map PExpr.words) 0) e.name (kW (e.kids.map PExpr.words) 1) := by rw [words_eq, h6]; rfl
    simp only [sims, core, pe, Nat.reduceAdd, Int.reduceBEq, Int.reduceBNe, Int.reduceLT, Int.reduceLE, effs, fx_22, q2, hpos, h6, hk0, hk1, hk2]
    rw [bin_cat]
    case hl => ((try simp only [List.length_append, List.length_cons, List.length_nil]); omega)
    simp only [sims, core, pe, Nat.reduceAdd, Int.reduceBEq, Int.reduceBNe, Int.reduceLT, Int.reduceLE, effs, fx_22, hk0, hk1, hk2, q2, hpos]
    rw [bin_cat]
    case hl => ((try simp only [List.length_append, List.length_cons, List.length_nil]); omega)
    simp only [sims, core, pe, Nat.reduceAdd, Int.reduceBEq, Int.reduceBNe, Int.reduceLT, Int.reduceLE, effs, fx_22, hk0, hk1, hk2, q2, hpos]
    rw [bin_cat]
    case hl => ((try simp only [List.length_append, List.length_cons, List.length_nil]); omega)
    simp only [sims, core, pe, Nat.reduceAdd, Int.reduceBEq, Int.reduceBNe, Int.reduceLT, Int.reduceLE, effs, fx_22, hk0, hk1, hk2, q2, hpos]
    rw [bin_cat]
    case hl => ((try simp only [List.length_append, List.length_cons, List.length_nil]); omega)
    simp only [sims, core, pe, Nat.reduceAdd, Int.reduceBEq, Int.reduceBNe, Int.reduceLT, Int.reduceLE, effs, fx_22, hk0, hk1, hk2, q2, hpos]
    rw [bin_cat]
    case hl => ((try simp only [List.length_append, List.length_cons, List.length_nil]); omega)
    simp only [sims, core, pe, Nat.reduceAdd, Int.reduceBEq, Int.reduceBNe, Int.reduceLT, Int.reduceLE, effs, fx_22, hk0, hk1, hk2, q2, hpos]
    rw [bin_cat]
    case hl => ((try simp only [List.length_append, List.length_cons, List.length_nil]); omega)
    simp only [sims, core, pe, Nat.reduceAdd, Int.reduceBEq, Int.reduceBNe, Int.reduceLT, Int.reduceLE, effs, fx_22, hk0, hk1, hk2, q2, hpos]
    rw [hwd]
    try simp only [btwW]
    simp only [J_one, J_cons, J_app, n0, n1, n2, hA, hB, hC, List.cons_append, List.nil_append, List.append_assoc, ne_eq, List.cons_ne_nil, List.append_eq_nil_iff, and_false, false_and, not_false_eq_true]
  by_cases h7 : e.op = 7
  · have hwd : e.words = [[40], [105, 102]] ++ kW (e.kids.map PExpr.words) 0 ++ [[116, 104, 101, 110]] ++ kW (e.kids.map PExpr.words) 1 ++ [[101, 108, 115, 101]] ++ kW (e.kids.map PExpr.words) 2 ++ [[41]] := by rw [words_eq, h7]; rfl
    simp only [sims, core, pe, Nat.reduceAdd, Int.reduceBEq, Int.reduceBNe, Int.reduceLT, Int.reduceLE, effs, fx_22, q2, hpos, h7, hk0, hk1, hk2]
    rw [bin_cat]
    case hl => ((try simp only [List.length_append, List.length_cons, List.length_nil]); omega)
    simp only [sims, core, pe, Nat.reduceAdd, Int.reduceBEq, Int.reduceBNe, Int.reduceLT, Int.reduceLE, effs, fx_22, hk0, hk1, hk2, q2, hpos]
    rw [bin_cat]
    case hl => ((try simp only [List.length_append, List.length_cons, List.length_nil]); omega)
    simp only [sims, core, pe, Nat.reduceAdd, Int.reduceBEq, Int.reduceBNe, Int.reduceLT, Int.reduceLE, effs, fx_22, hk0, hk1, hk2, q2, hpos]
    rw [bin_cat]
    case hl => ((try simp only [List.length_append, List.length_cons, List.length_nil]); omega)
    simp only [sims, core, pe, Nat.reduceAdd, Int.reduceBEq, Int.reduceBNe, Int.reduceLT, Int.reduceLE, effs, fx_22, hk0, hk1, hk2, q2, hpos]
    rw [bin_cat]
    case hl => ((try simp only [List.length_append, List.length_cons, List.length_nil]); omega)
    simp only [sims, core, pe, Nat.reduceAdd, Int.reduceBEq, Int.reduceBNe, Int.reduceLT, Int.reduceLE, effs, fx_22, hk0, hk1, hk2, q2, hpos]
    rw [bin_cat]
    case hl => ((try simp only [List.length_append, List.length_cons, List.length_nil]); omega)
    simp only [sims, core, pe, Nat.reduceAdd, Int.reduceBEq, Int.reduceBNe, Int.reduceLT, Int.reduceLE, effs, fx_22, hk0, hk1, hk2, q2, hpos]
    rw [bin_cat]
    case hl => ((try simp only [List.length_append, List.length_cons, List.length_nil]); omega)
    simp only [sims, core, pe, Nat.reduceAdd, Int.reduceBEq, Int.reduceBNe, Int.reduceLT, Int.reduceLE, effs, fx_22, hk0, hk1, hk2, q2, hpos]
    rw [hwd]
    try simp only [btwW]
    simp only [J_one, J_cons, J_app, n0, n1, n2, hA, hB, hC, List.cons_append, List.nil_append, List.append_assoc, ne_eq, List.cons_ne_nil, List.append_eq_nil_iff, and_false, false_and, not_false_eq_true]
  by_cases h8 : e.op = 8
  · have hwd : e.words = btwW (kW (e.kids.map PExpr.words) 0) [102, 98, 121] (kW (e.kids.map PExpr.words) 1) := by rw [words_eq, h8]; rfl
    simp only [sims, core, pe, Nat.reduceAdd, Int.reduceBEq, Int.reduceBNe, Int.reduceLT, Int.reduceLE, effs, fx_22, q2, hpos, h8, hk0, hk1, hk2]
    rw [bin_cat]
    case hl => ((try simp only [List.length_append, List.length_cons, List.length_nil]); omega)
    simp only [sims, core, pe, Nat.reduceAdd, Int.reduceBEq, Int.reduceBNe, Int.reduceLT, Int.reduceLE, effs, fx_22, hk0, hk1, hk2, q2, hpos]
    rw [bin_cat]
    case hl => ((try simp only [List.length_append, List.length_cons, List.length_nil]); omega)
    simp only [sims, core, pe, Nat.reduceAdd, Int.reduceBEq, Int.reduceBNe, Int.reduceLT, Int.reduceLE, effs, fx_22, hk0, hk1, hk2, q2, hpos]
    rw [bin_cat]
    case hl => ((try simp only [List.length_append, List.length_cons, List.length_nil]); omega)
    simp only [sims, core, pe, Nat.reduceAdd, Int.reduceBEq, Int.reduceBNe, Int.reduceLT, Int.reduceLE, effs, fx_22, hk0, hk1, hk2, q2, hpos]
    rw [bin_cat]
    case hl => ((try simp only [List.length_append, List.length_cons, List.length_nil]); omega)
    simp only [sims, core, pe, Nat.reduceAdd, Int.reduceBEq, Int.reduceBNe, Int.reduceLT, Int.reduceLE, effs, fx_22, hk0, hk1, hk2, q2, hpos]
    rw [hwd]
    try simp only [btwW]
    simp only [J_one, J_cons, J_app, n0, n1, n2, hA, hB, hC, List.cons_append, List.nil_append, List.append_assoc, ne_eq, List.cons_ne_nil, List.append_eq_nil_iff, and_false, false_and, not_false_eq_true]
  by_cases h10 : e.op = 10
  · have hwd : e.words = btwW (kW (e.kids.map PExpr.words) 0) [45, 62] (kW (e.kids.map PExpr.words) 1) := by rw [words_eq, h10]; rfl
    simp only [sims, core, pe, Nat.reduceAdd, Int.reduceBEq, Int.reduceBNe, Int.reduceLT, Int.reduceLE, effs, fx_22, q2, hpos, h10, hk0, hk1, hk2]
    rw [bin_cat]
    case hl => ((try simp only [List.length_append, List.length_cons, List.length_nil]); omega)
    simp only [sims, core, pe, Nat.reduceAdd, Int.reduceBEq, Int.reduceBNe, Int.reduceLT, Int.reduceLE, effs, fx_22, hk0, hk1, hk2, q2, hpos]
    rw [bin_cat]
    case hl => ((try simp only [List.length_append, List.length_cons, List.length_nil]); omega)
    simp only [sims, core, pe, Nat.reduceAdd, Int.reduceBEq, Int.reduceBNe, Int.reduceLT, Int.reduceLE, effs, fx_22, hk0, hk1, hk2, q2, hpos]
    rw [bin_cat]
    case hl => ((try simp only [List.length_append, List.length_cons, List.length_nil]); omega)
    simp only [sims, core, pe, Nat.reduceAdd, Int.reduceBEq, Int.reduceBNe, Int.reduceLT, Int.reduceLE, effs, fx_22, hk0, hk1, hk2, q2, hpos]
    rw [bin_cat]
    case hl => ((try simp only [List.length_append, List.length_cons, List.length_nil]); omega)
    simp only [sims, core, pe, Nat.reduceAdd, Int.reduceBEq, Int.reduceBNe, Int.reduceLT, Int.reduceLE, effs, fx_22, hk0, hk1, hk2, q2, hpos]
    rw [hwd]
    try simp only [btwW]
    simp only [J_one, J_cons, J_app, n0, n1, n2, hA, hB, hC, List.cons_append, List.nil_append, List.append_assoc, ne_eq, List.cons_ne_nil, List.append_eq_nil_iff, and_false, false_and, not_false_eq_true]
  by_cases h15 : e.op = 15
  · have hwd : e.words = btwW (kW (e.kids.map PExpr.words) 0) [101, 118, 101, 114, 121] (kW (e.kids.map PExpr.words) 1) := by rw [words_eq, h15]; rfl
    simp only [sims, core, pe, Nat.reduceAdd, Int.reduceBEq, Int.reduceBNe, Int.reduceLT, Int.reduceLE, effs, fx_22, q2, hpos, h15, hk0, hk1, hk2]
    rw [bin_cat]
    case hl => ((try simp only [List.length_append, List.length_cons, List.length_nil]); omega)
    simp only [sims, core, pe, Nat.reduceAdd, Int.reduceBEq, Int.reduceBNe, Int.reduceLT, Int.reduceLE, effs, fx_22, hk0, hk1, hk2, q2, hpos]
    rw [bin_cat]
    case hl => ((try simp only [List.length_append, List.length_cons, List.length_nil]); omega)
    simp only [sims, core, pe, Nat.reduceAdd, Int.reduceBEq, Int.reduceBNe, Int.reduceLT, Int.reduceLE, effs, fx_22, hk0, hk1, hk2, q2, hpos]
    rw [bin_cat]
    case hl => ((try simp only [List.length_append, List.length_cons, List.length_nil]); omega)
    simp only [sims, core, pe, Nat.reduceAdd, Int.reduceBEq, Int.reduceBNe, Int.reduceLT, Int.reduceLE, effs, fx_22, hk0, hk1, hk2, q2, hpos]
    rw [bin_cat]
    case hl => ((try simp only [List.length_append, List.length_cons, List.length_nil]); omega)
    simp only [sims, core, pe, Nat.reduceAdd, Int.reduceBEq, Int.reduceBNe, Int.reduceLT, Int.reduceLE, effs, fx_22, hk0, hk1, hk2, q2, hpos]
    rw [hwd]
    try simp only [btwW]
    simp only [J_one, J_cons, J_app, n0, n1, n2, hA, hB, hC, List.cons_append, List.nil_append, List.append_assoc, ne_eq, List.cons_ne_nil, List.append_eq_nil_iff, and_false, false_and, not_false_eq_true]
  by_cases h9 : e.op = 9
  · have hwd : e.words = [[40], [112, 114, 101]] ++ kW (e.kids.map PExpr.words) 0 ++ [[41]] := by rw [words_eq, h9]; rfl
    simp only [sims, core, pe, Nat.reduceAdd, Int.reduceBEq, Int.reduceBNe, Int.reduceLT, Int.reduceLE, effs, fx_22, q2, hpos, h9, hk0, hk1, hk2]
    rw [bin_cat]
    case hl => ((try simp only [List.length_append, List.length_cons, List.length_nil]); omega)
    simp only [sims, core, pe, Nat.reduceAdd, Int.reduceBEq, Int.reduceBNe, Int.reduceLT, Int.reduceLE, effs, fx_22, hk0, hk1, hk2, q2, hpos]
    rw [bin_cat]
    case hl => ((try simp only [List.length_append, List.length_cons, List.length_nil]); omega)
    simp only [sims, core, pe, Nat.reduceAdd, Int.reduceBEq, Int.reduceBNe, Int.reduceLT, Int.reduceLE, effs, fx_22, hk0, hk1, hk2, q2, hpos]
    rw [hwd]
    try simp only [btwW]
    simp only [J_one, J_cons, J_app, n0, n1, n2, hA, hB, hC, List.cons_append, List.nil_append, List.append_assoc, ne_eq, List.cons_ne_nil, List.append_eq_nil_iff, and_false, false_and, not_false_eq_true]
  have hcb := cons_bulk e
  have hce := consT_eq e.cons
  have hcl := T_len e.cons
  have hlb : T e.cons + e.cons.length * (([44] : Str).length + 1) + ([44] : Str).length ≤ lenTop := by simp only [List.length_cons, List.length_nil]; omega
  have hLS := LS_len [44] e.cons
  simp only [List.length_cons, List.length_nil] at hLS
  have cl : ∀ H, callA C H 48 [encStrs e.cons, .str [44]] = some (.ret (.str (LS [44] e.cons)) .same) := fun H => callA_tk (tk := .free) rfl (fun _ => rfl) (rlist_c e.cons [44] hlb) rfl (fun t h => by cases h)
  have cp : ∀ H, callA C H 47 [encStrs e.cons, .str [44]] = some (.ret (.str (padS e.cons [44])) .same) := fun H => callA_tk2 (tk := .free) rfl (fun _ => rfl) (rpad_c e.cons [44] hlb) rfl (fun t h => by cases h)
  by_cases h11 : e.op = 11
  · have hwd : e.words = [[40]] ++ kW (e.kids.map PExpr.words) 0 ++ [[119, 104, 101, 110]] ++ listW e.cons [44] ++ [[40], e.name, [41], [41]] := by rw [words_eq, h11]; rfl
    have hpl : (padS e.cons [44]).length ≤ 1 + (LS [44] e.cons).length := by unfold padS; split <;> simp <;> omega
    simp only [sims, core, pe, Nat.reduceAdd, Int.reduceBEq, Int.reduceBNe, Int.reduceLT, Int.reduceLE, effs, fx_22, q2, hpos, h11, hk0, hk1, hk2, cp]
    rw [bin_cat]
    case hl => ((try simp only [List.length_append, List.length_cons, List.length_nil]); omega)
    simp only [sims, core, pe, Nat.reduceAdd, Int.reduceBEq, Int.reduceBNe, Int.reduceLT, Int.reduceLE, effs, fx_22, hk0, hk1, hk2, q2, hpos, cp]
    rw [bin_cat]
    case hl => ((try simp only [List.length_append, List.length_cons, List.length_nil]); omega)
    simp only [sims, core, pe, Nat.reduceAdd, Int.reduceBEq, Int.reduceBNe, Int.reduceLT, Int.reduceLE, effs, fx_22, hk0, hk1, hk2, q2, hpos, cp]
    rw [bin_cat]
    case hl => ((try simp only [List.length_append, List.length_cons, List.length_nil]); omega)
    simp only [sims, core, pe, Nat.reduceAdd, Int.reduceBEq, Int.reduceBNe, Int.reduceLT, Int.reduceLE, effs, fx_22, hk0, hk1, hk2, q2, hpos, cp]
    rw [bin_cat]
    case hl => ((try simp only [List.length_append, List.length_cons, List.length_nil]); omega)
    simp only [sims, core, pe, Nat.reduceAdd, Int.reduceBEq, Int.reduceBNe, Int.reduceLT, Int.reduceLE, effs, fx_22, hk0, hk1, hk2, q2, hpos, cp]
    rw [bin_cat]
    case hl => ((try simp only [List.length_append, List.length_cons, List.length_nil]); omega)
    simp only [sims, core, pe, Nat.reduceAdd, Int.reduceBEq, Int.reduceBNe, Int.reduceLT, Int.reduceLE, effs, fx_22, hk0, hk1, hk2, q2, hpos, cp]
    rw [bin_cat]
    case hl => ((try simp only [List.length_append, List.length_cons, List.length_nil]); omega)
    simp only [sims, core, pe, Nat.reduceAdd, Int.reduceBEq, Int.reduceBNe, Int.reduceLT, Int.reduceLE, effs, fx_22, hk0, hk1, hk2, q2, hpos, cp]
    rw [hwd]
    by_cases hz : e.cons.length = 0
    · have hp : padS e.cons [44] = [] := if_pos hz
      have hw : listW e.cons [44] = [] := by rw [List.eq_nil_of_length_eq_zero hz]; rfl
      rw [hp, hw]
      simp only [J_one, J_cons, J_app, n0, n1, n2, hA, hB, hC, List.cons_append, List.nil_append, List.append_assoc, ne_eq, List.cons_ne_nil, List.append_eq_nil_iff, and_false, false_and, not_false_eq_true]
    · have hp : padS e.cons [44] = 32 :: LS [44] e.cons := if_neg hz
      have hne := listW_ne e.cons [44] hz
      rw [hp, listW_J]
      simp only [hne, J_one, J_cons, J_app, n0, n1, n2, hA, hB, hC, List.cons_append, List.nil_append, List.append_assoc, ne_eq, List.cons_ne_nil, List.append_eq_nil_iff, and_false, false_and, not_false_eq_true]
  have hal : ∀ x ∈ armL e.cons (e.kids.map PExpr.words), x ≠ [] := by
    intro x hx
    unfold armL at hx
    rw [List.mem_iff_getElem?] at hx
    obtain ⟨i, hi⟩ := hx
    rw [List.getElem?_zipWith] at hi
    split at hi
    · cases hi; simp
    · cases hi
  have hLA := LS_J [124] (armL e.cons (e.kids.map PExpr.words)) hal
  have hAL : (armL e.cons (e.kids.map PExpr.words)).length = min e.cons.length e.kids.length := by simp [armL, List.length_zipWith]
  have hTA : T ((armL e.cons (e.kids.map PExpr.words)).map J) ≤ sumT (armL e.cons (e.kids.map PExpr.words)) + (armL e.cons (e.kids.map PExpr.words)).length := by
    generalize armL e.cons (e.kids.map PExpr.words) = l
    induction l with
    | nil => simp [T, sumT]
    | cons x r ih =>
      have := J_len x
      simp only [List.map_cons, T, sumT, List.sum_cons, List.length_cons] at ih ⊢
      omega
  have hST := armL_T e.cons (e.kids.map PExpr.words)
  have hlb2 : T ((armL e.cons (e.kids.map PExpr.words)).map J) + ((armL e.cons (e.kids.map PExpr.words)).map J).length * (([124] : Str).length + 1) + ([124] : Str).length ≤ lenTop := by
    simp only [List.length_cons, List.length_nil, List.length_map]; omega
  have hLS2 := LS_len [124] ((armL e.cons (e.kids.map PExpr.words)).map J)
  simp only [List.length_cons, List.length_nil, List.length_map] at hLS2
  have hpl2 : (padS ((armL e.cons (e.kids.map PExpr.words)).map J) [124]).length ≤ 1 + (LS [124] ((armL e.cons (e.kids.map PExpr.words)).map J)).length := by unfold padS; split <;> simp <;> omega
  by_cases h12 : e.op = 12
  · have hwd : e.words = armsW [109, 101, 114, 103, 101] e.name e.cons (e.kids.map PExpr.words) := by rw [words_eq, h12]; rfl
    simp only [sims, core, pe, Nat.reduceAdd, Int.reduceBEq, Int.reduceBNe, Int.reduceLT, Int.reduceLE, effs, fx_22, q2, hpos, h12]
    generalize hb : codeB PP cmp0 C lpC _ = f; generalize hl : lpC f _ = r
    obtain ⟨ex, s', rfl, rfl, v3, h2⟩ := lpC_inv (α := Nat × AVal) hl [145, 146, 147, 148, 149, 150, 151, 152, 153, 154, 155, 156, 157, 158, 159, 160, 161, 162, 163, 164, 165, 166, 167, 168, 169, 170, 171, 172] (fun a => [(7, .int .i64 a.1), (6, a.2)]) (fun a h => a.1 ≤ (armL e.cons (e.kids.map PExpr.words)).length ∧ Grow h a.2 (encS (((armL e.cons (e.kids.map PExpr.words)).map J).take a.1)) 9 ∧ h[0]? = some (.box e.cells)) (fun a => (armL e.cons (e.kids.map PExpr.words)).length - a.1) (fun _ => ())
      (fun ts _ ex s => ex = .exit 5 ∧ ∃ v, OutT [7, 145, 146, 147, 148, 149, 150, 151, 152, 153, 154, 155, 156, 157, 158, 159, 160, 161, 162, 163, 164, 165, 166, 167, 168, 169, 170, 171, 172] ts [(6, v)] (fun h => Grow h v (encS ((armL e.cons (e.kids.map PExpr.words)).map J)) 9 ∧ h[0]? = some (.box e.cells)) s) (0, .slice [] .full) ⟨Nat.zero_le _, .inl ⟨rfl, rfl⟩, q2⟩ (by simp only [AtT, ats, Int.natCast_zero]) (by
        rintro ⟨i, v⟩ j h d ⟨hi, hg, q0⟩
        clear hl; subst hb
        simp only at hi hg
        have hp0 : decide (0 < h.length) = true := decide_eq_true (List.getElem?_eq_some_iff.1 q0).1
        by_cases hlt : i < (armL e.cons (e.kids.map PExpr.words)).length
        · have hi1 : i < e.kids.length := by omega
          have hi2 : i < e.cons.length := by omega
          have e1 : decide ((i : Int) < (e.kids.length : Int)) = true := decide_eq_true (by omega)
          have e2 : decide ((i : Int) < (e.cons.length : Int)) = true := decide_eq_true (by omega)
          have e3 := strs_get e.cons i hi2
          have hki : (ks3 (kidS e))[i]? = some (J e.kids[i].words) := by
            unfold ks3
            rw [List.getElem?_append_left (by simpa [kidS] using hi1)]
            simp [kidS, hi1]
          have e4 := encS_get _ _ _ hki
          have hxi : (armL e.cons (e.kids.map PExpr.words))[i] = [e.cons[i], [45, 62]] ++ e.kids[i].words := by simp [armL]
          have hne := words_ne e.kids[i]
          have hJi : J (armL e.cons (e.kids.map PExpr.words))[i] = e.cons[i] ++ 32 :: 45 :: 62 :: 32 :: J e.kids[i].words := by
            rw [hxi]; simp [J_cons, hne]
          have hJl : (J (armL e.cons (e.kids.map PExpr.words))[i]).length ≤ T ((armL e.cons (e.kids.map PExpr.words)).map J) := by
            have hm := List.getElem_mem hlt
            generalize (armL e.cons (e.kids.map PExpr.words))[i] = x at hm
            generalize armL e.cons (e.kids.map PExpr.words) = l at hm
            induction l with
            | nil => cases hm
            | cons y r ih =>
              simp only [List.map_cons, T]
              rcases List.mem_cons.1 hm with rfl | hm
              · omega
              · have := ih hm; omega
          rw [hJi] at hJl
          simp only [List.length_append, List.length_cons] at hJl
          obtain ⟨v1, E1, ha1, hg1, hB1⟩ := app_grow ao_33 (fs := [[.str (e.cons[i] ++ 32 :: 45 :: 62 :: 32 :: J e.kids[i].words)]]) hg (by rw [encS_len]; simp; omega) (encS_one _) (by intro c hc; simp only [List.mem_cons, List.not_mem_nil, or_false] at hc; subst hc; rfl) (by simp)
          have htk : (((armL e.cons (e.kids.map PExpr.words)).map J).take (i + 1)) = ((armL e.cons (e.kids.map PExpr.words)).map J).take i ++ [J (armL e.cons (e.kids.map PExpr.words))[i]] := by
            rw [List.take_succ_eq_append_getElem (by simpa using hlt)]; simp
          simp only [sims, core, pe, Nat.reduceAdd, Int.reduceBEq, Int.reduceBNe, Int.reduceLT, Int.reduceLE, effs, fx_22, encStrs, e1, e2, e3, e4, q0, hp0]
          rw [bin_cat]
          case hl => ((try simp only [List.length_append, List.length_cons, List.length_nil]); omega)
          simp only [sims, core, pe, Nat.reduceAdd, Int.reduceBEq, Int.reduceBNe, Int.reduceLT, Int.reduceLE, effs, fx_22, encStrs, e3, e4, q0, hp0]
          rw [bin_cat]
          case hl => ((try simp only [List.length_append, List.length_cons, List.length_nil]); omega)
          simp only [sims, core, pe, Nat.reduceAdd, Int.reduceBEq, Int.reduceBNe, Int.reduceLT, Int.reduceLE, effs, fx_22, encStrs, e3, e4, q0, hp0, ha1, stepD_eff, wrap_nat (show i ≤ lenTop by omega)]
          exact .inl ⟨(i + 1, v1), _, rfl, ⟨hlt, by rw [htk, encS_app, hJi]; exact hg1, hB1 _ _ q0⟩, by simp only [AtT, ats, Int.natCast_zero], by (try simp only []); omega, by first | rfl | trivial⟩
        · have ht' : ((armL e.cons (e.kids.map PExpr.words)).map J).take i = (armL e.cons (e.kids.map PExpr.words)).map J := List.take_of_length_le (by simp only [List.length_map]; omega)
          rw [ht'] at hg
          by_cases hi1 : i < e.kids.length
          · have e1 : decide ((i : Int) < (e.kids.length : Int)) = true := decide_eq_true (by omega)
            have e2 : decide ((i : Int) < (e.cons.length : Int)) = false := decide_eq_false (by omega)
            simp only [sims, core, pe, Nat.reduceAdd, Int.reduceBEq, Int.reduceBNe, Int.reduceLT, Int.reduceLE, effs, fx_22, encStrs, e1, e2, q0, hp0]
            exact .inr ⟨_, _, rfl, by simp, rfl, v, by simp only [AtT, ats], hg, q0⟩
          · have e1 : decide ((i : Int) < (e.kids.length : Int)) = false := decide_eq_false (by omega)
            simp only [sims, core, pe, Nat.reduceAdd, Int.reduceBEq, Int.reduceBNe, Int.reduceLT, Int.reduceLE, effs, fx_22, encStrs, e1, q0, hp0]
            exact .inr ⟨_, _, rfl, by simp, rfl, v, by simp only [AtT, ats], hg, q0⟩)
    obtain ⟨j3, H3, d3, ⟨hg3, q3⟩, rfl⟩ := h2.elim
    clear hl
    have hpos3 : decide (0 < H3.length) = true := decide_eq_true (List.getElem?_eq_some_iff.1 q3).1
    obtain ⟨tk3, rfl, ht3⟩ : ∃ tk, v3 = .slice (encS ((armL e.cons (e.kids.map PExpr.words)).map J)) tk ∧ ∀ t, tk = .own t → ∃ k e, H3[t]? = some (.tok k e) := by
      rcases hg3 with ⟨h1, h2⟩ | ⟨t, h1, h2⟩
      · exact ⟨.full, by rw [h2]; exact congrArg (fun l => AVal.slice l .full) h1.symm, fun t h => by cases h⟩
      · exact ⟨_, h1, fun t' h => by cases h; exact ⟨_, _, h2⟩⟩
    have cp3 := callA_tk2 (H := H3) (s := .str [124]) (tk := tk3) rfl (fun _ => rfl) (rpad_c ((armL e.cons (e.kids.map PExpr.words)).map J) [124] hlb2) rfl ht3
    simp only [sims, core, pe, Nat.reduceAdd, Int.reduceBEq, Int.reduceBNe, Int.reduceLT, Int.reduceLE, effs, fx_22, q3, hpos3, cp3]
    rw [bin_cat]
    case hl => ((try simp only [List.length_append, List.length_cons, List.length_nil]); omega)
    simp only [sims, core, pe, Nat.reduceAdd, Int.reduceBEq, Int.reduceBNe, Int.reduceLT, Int.reduceLE, effs, fx_22, q3, hpos3, cp3]
    rw [bin_cat]
    case hl => ((try simp only [List.length_append, List.length_cons, List.length_nil]); omega)
    simp only [sims, core, pe, Nat.reduceAdd, Int.reduceBEq, Int.reduceBNe, Int.reduceLT, Int.reduceLE, effs, fx_22, q3, hpos3, cp3]
    rw [bin_cat]
    case hl => ((try simp only [List.length_append, List.length_cons, List.length_nil]); omega)
    simp only [sims, core, pe, Nat.reduceAdd, Int.reduceBEq, Int.reduceBNe, Int.reduceLT, Int.reduceLE, effs, fx_22, q3, hpos3, cp3]
    rw [bin_cat]
    case hl => ((try simp only [List.length_append, List.length_cons, List.length_nil]); omega)
    simp only [sims, core, pe, Nat.reduceAdd, Int.reduceBEq, Int.reduceBNe, Int.reduceLT, Int.reduceLE, effs, fx_22, q3, hpos3, cp3]
    rw [bin_cat]
    case hl => ((try simp only [List.length_append, List.length_cons, List.length_nil]); omega)
    simp only [sims, core, pe, Nat.reduceAdd, Int.reduceBEq, Int.reduceBNe, Int.reduceLT, Int.reduceLE, effs, fx_22, q3, hpos3, cp3]
    rw [hwd]
    unfold armsW
    by_cases hz : (armL e.cons (e.kids.map PExpr.words)).length = 0
    · have hp : padS ((armL e.cons (e.kids.map PExpr.words)).map J) [124] = [] := if_pos (by simpa using hz)
      have hw : sepW [124] (armL e.cons (e.kids.map PExpr.words)) = [] := by rw [List.eq_nil_of_length_eq_zero hz]; rfl
      rw [hp, hw]
      simp only [J_one, J_cons, J_app, n0, n1, n2, hA, hB, hC, List.cons_append, List.nil_append, List.append_assoc, ne_eq, List.cons_ne_nil, List.append_eq_nil_iff, and_false, false_and, not_false_eq_true]
    · have hp : padS ((armL e.cons (e.kids.map PExpr.words)).map J) [124] = 32 :: LS [124] ((armL e.cons (e.kids.map PExpr.words)).map J) := if_neg (by simpa using hz)
      have hne : sepW [124] (armL e.cons (e.kids.map PExpr.words)) ≠ [] := by
        cases hh : armL e.cons (e.kids.map PExpr.words) with
        | nil => rw [hh] at hz; simp at hz
        | cons x r => exact sepW_ne _ x r (hal x (by rw [hh]; simp))
      rw [hp, hLA]
      simp only [hne, J_one, J_cons, J_app, n0, n1, n2, hA, hB, hC, List.cons_append, List.nil_append, List.append_assoc, ne_eq, List.cons_ne_nil, List.append_eq_nil_iff, and_false, false_and, not_false_eq_true]
  by_cases h13 : e.op = 13
  · have hwd : e.words = armsW [109, 97, 116, 99, 104] e.name e.cons (e.kids.map PExpr.words) := by rw [words_eq, h13]; rfl
    simp only [sims, core, pe, Nat.reduceAdd, Int.reduceBEq, Int.reduceBNe, Int.reduceLT, Int.reduceLE, effs, fx_22, q2, hpos, h13]
    generalize hb : codeB PP cmp0 C lpC _ = f; generalize hl : lpC f _ = r
    obtain ⟨ex, s', rfl, rfl, v3, h2⟩ := lpC_inv (α := Nat × AVal) hl [145, 146, 147, 148, 149, 150, 151, 152, 153, 154, 155, 156, 157, 158, 159, 160, 161, 162, 163, 164, 165, 166, 167, 168, 169, 170, 171, 172] (fun a => [(7, .int .i64 a.1), (6, a.2)]) (fun a h => a.1 ≤ (armL e.cons (e.kids.map PExpr.words)).length ∧ Grow h a.2 (encS (((armL e.cons (e.kids.map PExpr.words)).map J).take a.1)) 9 ∧ h[0]? = some (.box e.cells)) (fun a => (armL e.cons (e.kids.map PExpr.words)).length - a.1) (fun _ => ())
      (fun ts _ ex s => ex = .exit 5 ∧ ∃ v, OutT [7, 145, 146, 147, 148, 149, 150, 151, 152, 153, 154, 155, 156, 157, 158, 159, 160, 161, 162, 163, 164, 165, 166, 167, 168, 169, 170, 171, 172] ts [(6, v)] (fun h => Grow h v (encS ((armL e.cons (e.kids.map PExpr.words)).map J)) 9 ∧ h[0]? = some (.box e.cells)) s) (0, .slice [] .full) ⟨Nat.zero_le _, .inl ⟨rfl, rfl⟩, q2⟩ (by simp only [AtT, ats, Int.natCast_zero]) (by
        rintro ⟨i, v⟩ j h d ⟨hi, hg, q0⟩
        clear hl; subst hb
        simp only at hi hg
        have hp0 : decide (0 < h.length) = true := decide_eq_true (List.getElem?_eq_some_iff.1 q0).1
        by_cases hlt : i < (armL e.cons (e.kids.map PExpr.words)).length
        · have hi1 : i < e.kids.length := by omega
          have hi2 : i < e.cons.length := by omega
          have e1 : decide ((i : Int) < (e.kids.length : Int)) = true := decide_eq_true (by omega)
          have e2 : decide ((i : Int) < (e.cons.length : Int)) = true := decide_eq_true (by omega)
          have e3 := strs_get e.cons i hi2
          have hki : (ks3 (kidS e))[i]? = some (J e.kids[i].words) := by
            unfold ks3
            rw [List.getElem?_append_left (by simpa [kidS] using hi1)]
            simp [kidS, hi1]
          have e4 := encS_get _ _ _ hki
          have hxi : (armL e.cons (e.kids.map PExpr.words))[i] = [e.cons[i], [45, 62]] ++ e.kids[i].words := by simp [armL]
          have hne := words_ne e.kids[i]
          have hJi : J (armL e.cons (e.kids.map PExpr.words))[i] = e.cons[i] ++ 32 :: 45 :: 62 :: 32 :: J e.kids[i].words := by
            rw [hxi]; simp [J_cons, hne]
          have hJl : (J (armL e.cons (e.kids.map PExpr.words))[i]).length ≤ T ((armL e.cons (e.kids.map PExpr.words)).map J) := by
            have hm := List.getElem_mem hlt
            generalize (armL e.cons (e.kids.map PExpr.words))[i] = x at hm
            generalize armL e.cons (e.kids.map PExpr.words) = l at hm
            induction l with
            | nil => cases hm
            | cons y r ih =>
              simp only [List.map_cons, T]
              rcases List.mem_cons.1 hm with rfl | hm
              · omega
              · have := ih hm; omega
          rw [hJi] at hJl
          simp only [List.length_append, List.length_cons] at hJl
          obtain ⟨v1, E1, ha1, hg1, hB1⟩ := app_grow ao_33 (fs := [[.str (e.cons[i] ++ 32 :: 45 :: 62 :: 32 :: J e.kids[i].words)]]) hg (by rw [encS_len]; simp; omega) (encS_one _) (by intro c hc; simp only [List.mem_cons, List.not_mem_nil, or_false] at hc; subst hc; rfl) (by simp)
          have htk : (((armL e.cons (e.kids.map PExpr.words)).map J).take (i + 1)) = ((armL e.cons (e.kids.map PExpr.words)).map J).take i ++ [J (armL e.cons (e.kids.map PExpr.words))[i]] := by
            rw [List.take_succ_eq_append_getElem (by simpa using hlt)]; simp
          simp only [sims, core, pe, Nat.reduceAdd, Int.reduceBEq, Int.reduceBNe, Int.reduceLT, Int.reduceLE, effs, fx_22, encStrs, e1, e2, e3, e4, q0, hp0]
          rw [bin_cat]
          case hl => ((try simp only [List.length_append, List.length_cons, List.length_nil]); omega)
          simp only [sims, core, pe, Nat.reduceAdd, Int.reduceBEq, Int.reduceBNe, Int.reduceLT, Int.reduceLE, effs, fx_22, encStrs, e3, e4, q0, hp0]
          rw [bin_cat]
          case hl => ((try simp only [List.length_append, List.length_cons, List.length_nil]); omega)
          simp only [sims, core, pe, Nat.reduceAdd, Int.reduceBEq, Int.reduceBNe, Int.reduceLT, Int.reduceLE, effs, fx_22, encStrs, e3, e4, q0, hp0, ha1, stepD_eff, wrap_nat (show i ≤ lenTop by omega)]
          exact .inl ⟨(i + 1, v1), _, rfl, ⟨hlt, by rw [htk, encS_app, hJi]; exact hg1, hB1 _ _ q0⟩, by simp only [AtT, ats, Int.natCast_zero], by (try simp only []); omega, by first | rfl | trivial⟩
        · have ht' : ((armL e.cons (e.kids.map PExpr.words)).map J).take i = (armL e.cons (e.kids.map PExpr.words)).map J := List.take_of_length_le (by simp only [List.length_map]; omega)
          rw [ht'] at hg
          by_cases hi1 : i < e.kids.length
          · have e1 : decide ((i : Int) < (e.kids.length : Int)) = true := decide_eq_true (by omega)
            have e2 : decide ((i : Int) < (e.cons.length : Int)) = false := decide_eq_false (by omega)
            simp only [sims, core, pe, Nat.reduceAdd, Int.reduceBEq, Int.reduceBNe, Int.reduceLT, Int.reduceLE, effs, fx_22, encStrs, e1, e2, q0, hp0]
            exact .inr ⟨_, _, rfl, by simp, rfl, v, by simp only [AtT, ats], hg, q0⟩
          · have e1 : decide ((i : Int) < (e.kids.length : Int)) = false := decide_eq_false (by omega)
            simp only [sims, core, pe, Nat.reduceAdd, Int.reduceBEq, Int.reduceBNe, Int.reduceLT, Int.reduceLE, effs, fx_22, encStrs, e1, q0, hp0]
            exact .inr ⟨_, _, rfl, by simp, rfl, v, by simp only [AtT, ats], hg, q0⟩)
    obtain ⟨j3, H3, d3, ⟨hg3, q3⟩, rfl⟩ := h2.elim
    clear hl
    have hpos3 : decide (0 < H3.length) = true := decide_eq_true (List.getElem?_eq_some_iff.1 q3).1
    obtain ⟨tk3, rfl, ht3⟩ : ∃ tk, v3 = .slice (encS ((armL e.cons (e.kids.map PExpr.words)).map J)) tk ∧ ∀ t, tk = .own t → ∃ k e, H3[t]? = some (.tok k e) := by
      rcases hg3 with ⟨h1, h2⟩ | ⟨t, h1, h2⟩
      · exact ⟨.full, by rw [h2]; exact congrArg (fun l => AVal.slice l .full) h1.symm, fun t h => by cases h⟩
      · exact ⟨_, h1, fun t' h => by cases h; exact ⟨_, _, h2⟩⟩
    have cp3 := callA_tk2 (H := H3) (s := .str [124]) (tk := tk3) rfl (fun _ => rfl) (rpad_c ((armL e.cons (e.kids.map PExpr.words)).map J) [124] hlb2) rfl ht3
    simp only [sims, core, pe, Nat.reduceAdd, Int.reduceBEq, Int.reduceBNe, Int.reduceLT, Int.reduceLE, effs, fx_22, q3, hpos3, cp3]
    rw [bin_cat]
    case hl => ((try simp only [List.length_append, List.length_cons, List.length_nil]); omega)
    simp only [sims, core, pe, Nat.reduceAdd, Int.reduceBEq, Int.reduceBNe, Int.reduceLT, Int.reduceLE, effs, fx_22, q3, hpos3, cp3]
    rw [bin_cat]
    case hl => ((try simp only [List.length_append, List.length_cons, List.length_nil]); omega)
    simp only [sims, core, pe, Nat.reduceAdd, Int.reduceBEq, Int.reduceBNe, Int.reduceLT, Int.reduceLE, effs, fx_22, q3, hpos3, cp3]
    rw [bin_cat]
    case hl => ((try simp only [List.length_append, List.length_cons, List.length_nil]); omega)
    simp only [sims, core, pe, Nat.reduceAdd, Int.reduceBEq, Int.reduceBNe, Int.reduceLT, Int.reduceLE, effs, fx_22, q3, hpos3, cp3]
    rw [bin_cat]
    case hl => ((try simp only [List.length_append, List.length_cons, List.length_nil]); omega)
    simp only [sims, core, pe, Nat.reduceAdd, Int.reduceBEq, Int.reduceBNe, Int.reduceLT, Int.reduceLE, effs, fx_22, q3, hpos3, cp3]
    rw [bin_cat]
    case hl => ((try simp only [List.length_append, List.length_cons, List.length_nil]); omega)
    simp only [sims, core, pe, Nat.reduceAdd, Int.reduceBEq, Int.reduceBNe, Int.reduceLT, Int.reduceLE, effs, fx_22, q3, hpos3, cp3]
    rw [hwd]
    unfold armsW
    by_cases hz : (armL e.cons (e.kids.map PExpr.words)).length = 0
    · have hp : padS ((armL e.cons (e.kids.map PExpr.words)).map J) [124] = [] := if_pos (by simpa using hz)
      have hw : sepW [124] (armL e.cons (e.kids.map PExpr.words)) = [] := by rw [List.eq_nil_of_length_eq_zero hz]; rfl
      rw [hp, hw]
      simp only [J_one, J_cons, J_app, n0, n1, n2, hA, hB, hC, List.cons_append, List.nil_append, List.append_assoc, ne_eq, List.cons_ne_nil, List.append_eq_nil_iff, and_false, false_and, not_false_eq_true]
    · have hp : padS ((armL e.cons (e.kids.map PExpr.words)).map J) [124] = 32 :: LS [124] ((armL e.cons (e.kids.map PExpr.words)).map J) := if_neg (by simpa using hz)
      have hne : sepW [124] (armL e.cons (e.kids.map PExpr.words)) ≠ [] := by
        cases hh : armL e.cons (e.kids.map PExpr.words) with
        | nil => rw [hh] at hz; simp at hz
        | cons x r => exact sepW_ne _ x r (hal x (by rw [hh]; simp))
      rw [hp, hLA]
      simp only [hne, J_one, J_cons, J_app, n0, n1, n2, hA, hB, hC, List.cons_append, List.nil_append, List.append_assoc, ne_eq, List.cons_ne_nil, List.append_eq_nil_iff, and_false, false_and, not_false_eq_true]
  have hks : (kidS e).length = e.kids.length := by simp [kidS]
  have hkJ : kidS e = (e.kids.map PExpr.words).map J := by simp [kidS]
  have hTk : T (kidS e) ≤ sumT (e.kids.map PExpr.words) + e.kids.length := by
    rw [hkJ, ← List.length_map (f := PExpr.words)]
    generalize (e.kids.map PExpr.words) = l
    induction l with
    | nil => simp [T, sumT]
    | cons x r ih =>
      have := J_len x
      simp only [List.map_cons, T, sumT, List.sum_cons, List.length_cons] at ih ⊢
      omega
  have hlb3 : T (kidS e) + (kidS e).length * (([44] : Str).length + 1) + ([44] : Str).length ≤ lenTop := by
    simp only [List.length_cons, List.length_nil]; omega
  have hLS3 := LS_len [44] (kidS e)
  simp only [List.length_cons, List.length_nil] at hLS3
  have hpl3 : (padS (kidS e) [44]).length ≤ 1 + (LS [44] (kidS e)).length := by unfold padS; split <;> simp <;> omega
  obtain ⟨tk4, hsl, ht4⟩ : ∃ tk, sliceA PP 33 (.slice (encS (ks3 (kidS e))) (.own t)) none (some (.int .i64 e.kids.length)) none = some (.slice (encS (kidS e)) tk) ∧ ∀ t', tk = .own t' → ∃ k e, H2[t']? = some (.tok k e) := by
    have hle : (encS (ks3 (kidS e))).length = (ks3 (kidS e)).length := encS_len _
    have hk3 : e.kids.length ≤ (ks3 (kidS e)).length := by unfold ks3; rw [List.length_append]; omega
    have hbd : bound (.int .i64 (e.kids.length : Int)) (encS (ks3 (kidS e))).length = some e.kids.length := by
      show (if 0 ≤ (e.kids.length : Int) ∧ (e.kids.length : Int) ≤ ((encS (ks3 (kidS e))).length : Int) then some (e.kids.length : Int).toNat else none) = _
      rw [if_pos ⟨Int.natCast_nonneg _, by rw [hle]; omega⟩]; simp
    have htake : (encS (ks3 (kidS e))).take e.kids.length = encS (kidS e) := by
      unfold ks3
      rw [encS_app, ← hks, ← encS_len (kidS e), List.take_left]
    refine ⟨sliceTk (.own t) 0 e.kids.length (encS (ks3 (kidS e))).length none, ?_, ?_⟩
    · unfold sliceA
      rw [un_33]
      simp only [hbd, Option.map_none, Option.getD_none, sz_9, headOk_elems (encS_one _), if_true, List.drop_zero, Nat.sub_zero, htake]
    · intro t' h
      unfold sliceTk at h
      simp only at h
      split at h
      · cases h; exact ⟨_, _, ht⟩
      · split at h <;> cases h
  have cp4 := callA_tk2 (H := H2) (s := .str [44]) (tk := tk4) rfl (fun _ => rfl) (rpad_c (kidS e) [44] hlb3) rfl ht4
  have hLk : LS [44] (kidS e) = J (sepW [44] (e.kids.map PExpr.words)) := by
    rw [hkJ]
    exact LS_J [44] _ (by intro x hx; obtain ⟨y, _, rfl⟩ := List.mem_map.1 hx; exact words_ne y)
  by_cases h14 : e.op = 14
  · have hwd : e.words = callW e.name e.cons (e.kids.map PExpr.words) := by rw [words_eq, h14]; rfl
    rw [hwd]
    unfold callW brW
    have hfin : ∀ s : Str, s ≠ s ++ [0] := fun s h => by simpa using congrArg List.length h
    clear hfin
    by_cases hz : e.cons.length = 0
    · have e0 : decide ((0 : Int) < (e.cons.length : Int)) = false := decide_eq_false (by omega)
      rw [if_pos hz]
      simp only [sims, core, pe, Nat.reduceAdd, Int.reduceBEq, Int.reduceBNe, Int.reduceLT, Int.reduceLE, effs, fx_22, q2, hpos, h14, len_encStrs, hsl, cp4, cl, e0]
      rw [bin_cat]
      case hl => ((try simp only [List.length_append, List.length_cons, List.length_nil]); omega)
      simp only [sims, core, pe, Nat.reduceAdd, Int.reduceBEq, Int.reduceBNe, Int.reduceLT, Int.reduceLE, effs, fx_22, q2, hpos, h14, len_encStrs, hsl, cp4, cl, e0]
      rw [bin_cat]
      case hl => ((try simp only [List.length_append, List.length_cons, List.length_nil]); omega)
      simp only [sims, core, pe, Nat.reduceAdd, Int.reduceBEq, Int.reduceBNe, Int.reduceLT, Int.reduceLE, effs, fx_22, q2, hpos, h14, len_encStrs, hsl, cp4, cl, e0]
      rw [bin_cat]
      case hl => ((try simp only [List.length_append, List.length_cons, List.length_nil]); omega)
      simp only [sims, core, pe, Nat.reduceAdd, Int.reduceBEq, Int.reduceBNe, Int.reduceLT, Int.reduceLE, effs, fx_22, q2, hpos, h14, len_encStrs, hsl, cp4, cl, e0]
      by_cases hy : e.kids.length = 0
      · have hp : padS (kidS e) [44] = [] := if_pos (by rw [hks]; exact hy)
        have hw : sepW [44] (e.kids.map PExpr.words) = [] := by
          have : (e.kids.map PExpr.words) = [] := List.eq_nil_of_length_eq_zero (by simpa using hy)
          rw [this]; rfl
        rw [hp, hw]
        simp only [J_one, J_cons, J_app, n0, n1, n2, hA, hB, hC, List.cons_append, List.nil_append, List.append_assoc, ne_eq, List.cons_ne_nil, List.append_eq_nil_iff, and_false, false_and, not_false_eq_true]
      · have hp : padS (kidS e) [44] = 32 :: LS [44] (kidS e) := if_neg (by rw [hks]; exact hy)
        have hne2 : sepW [44] (e.kids.map PExpr.words) ≠ [] := by
          cases hh : e.kids with
          | nil => rw [hh] at hy; simp at hy
          | cons x r => exact sepW_ne _ _ _ (words_ne x)
        rw [hp, hLk]
        simp only [hne2, J_one, J_cons, J_app, n0, n1, n2, hA, hB, hC, List.cons_append, List.nil_append, List.append_assoc, ne_eq, List.cons_ne_nil, List.append_eq_nil_iff, and_false, false_and, not_false_eq_true]
    · have e0 : decide ((0 : Int) < (e.cons.length : Int)) = true := decide_eq_true (by omega)
      have hne := listW_ne e.cons [44] hz
      rw [if_neg hz]
      simp only [sims, core, pe, Nat.reduceAdd, Int.reduceBEq, Int.reduceBNe, Int.reduceLT, Int.reduceLE, effs, fx_22, q2, hpos, h14, len_encStrs, hsl, cp4, cl, e0]
      rw [bin_cat]
      case hl => ((try simp only [List.length_append, List.length_cons, List.length_nil]); omega)
      simp only [sims, core, pe, Nat.reduceAdd, Int.reduceBEq, Int.reduceBNe, Int.reduceLT, Int.reduceLE, effs, fx_22, q2, hpos, h14, len_encStrs, hsl, cp4, cl, e0]
      rw [bin_cat]
      case hl => ((try simp only [List.length_append, List.length_cons, List.length_nil]); omega)
      simp only [sims, core, pe, Nat.reduceAdd, Int.reduceBEq, Int.reduceBNe, Int.reduceLT, Int.reduceLE, effs, fx_22, q2, hpos, h14, len_encStrs, hsl, cp4, cl, e0]
      rw [bin_cat]
      case hl => ((try simp only [List.length_append, List.length_cons, List.length_nil]); omega)
      simp only [sims, core, pe, Nat.reduceAdd, Int.reduceBEq, Int.reduceBNe, Int.reduceLT, Int.reduceLE, effs, fx_22, q2, hpos, h14, len_encStrs, hsl, cp4, cl, e0]
      rw [bin_cat]
      case hl => ((try simp only [List.length_append, List.length_cons, List.length_nil]); omega)
      simp only [sims, core, pe, Nat.reduceAdd, Int.reduceBEq, Int.reduceBNe, Int.reduceLT, Int.reduceLE, effs, fx_22, q2, hpos, h14, len_encStrs, hsl, cp4, cl, e0]
      rw [bin_cat]
      case hl => ((try simp only [List.length_append, List.length_cons, List.length_nil]); omega)
      simp only [sims, core, pe, Nat.reduceAdd, Int.reduceBEq, Int.reduceBNe, Int.reduceLT, Int.reduceLE, effs, fx_22, q2, hpos, h14, len_encStrs, hsl, cp4, cl, e0]
      rw [bin_cat]
      case hl => ((try simp only [List.length_append, List.length_cons, List.length_nil]); omega)
      simp only [sims, core, pe, Nat.reduceAdd, Int.reduceBEq, Int.reduceBNe, Int.reduceLT, Int.reduceLE, effs, fx_22, q2, hpos, h14, len_encStrs, hsl, cp4, cl, e0]
      by_cases hy : e.kids.length = 0
      · have hp : padS (kidS e) [44] = [] := if_pos (by rw [hks]; exact hy)
        have hw : sepW [44] (e.kids.map PExpr.words) = [] := by
          have : (e.kids.map PExpr.words) = [] := List.eq_nil_of_length_eq_zero (by simpa using hy)
          rw [this]; rfl
        rw [hp, hw]
        simp only [listW_J, hne, J_one, J_cons, J_app, n0, n1, n2, hA, hB, hC, List.cons_append, List.nil_append, List.append_assoc, ne_eq, List.cons_ne_nil, List.append_eq_nil_iff, and_false, false_and, not_false_eq_true]
      · have hp : padS (kidS e) [44] = 32 :: LS [44] (kidS e) := if_neg (by rw [hks]; exact hy)
        have hne2 : sepW [44] (e.kids.map PExpr.words) ≠ [] := by
          cases hh : e.kids with
          | nil => rw [hh] at hy; simp at hy
          | cons x r => exact sepW_ne _ _ _ (words_ne x)
        rw [hp, hLk]
        simp only [listW_J, hne, hne2, J_one, J_cons, J_app, n0, n1, n2, hA, hB, hC, List.cons_append, List.nil_append, List.append_assoc, ne_eq, List.cons_ne_nil, List.append_eq_nil_iff, and_false, false_and, not_false_eq_true]
  have z1 := beq_false_of_ne h1
  have z2 := beq_false_of_ne h2
  have z3 := beq_false_of_ne h3
  have z4 := beq_false_of_ne h4
  have z5 := beq_false_of_ne h5
  have z6 := beq_false_of_ne h6
  have z7 := beq_false_of_ne h7
  have z8 := beq_false_of_ne h8
  have z9 := beq_false_of_ne h9
  have z10 := beq_false_of_ne h10
  have z11 := beq_false_of_ne h11
  have z12 := beq_false_of_ne h12
  have z13 := beq_false_of_ne h13
  have z14 := beq_false_of_ne h14
  have z15 := beq_false_of_ne h15
  have hwd : e.words = [[63]] := by
    rw [words_eq]; unfold wordsOf
    rw [if_neg h1, if_neg h2, if_neg h3, if_neg h4, if_neg h5, if_neg h6, if_neg h7, if_neg h8, if_neg h10, if_neg h15, if_neg h9, if_neg h11, if_neg h12, if_neg h13, if_neg h14]
  simp only [sims, core, pe, Nat.reduceAdd, Int.reduceBEq, Int.reduceBNe, Int.reduceLT, Int.reduceLE, effs, fx_22, q2, hpos, z1, z2, z3, z4, z5, z6, z7, z8, z9, z10, z11, z12, z13, z14, z15]
  rw [hwd]; rfl
theorem rshow_c (e : PExpr) : e.Small → e.Rng → e.bulk ≤ 1048576 → Ret C 22 [.agg e.cells] (.str (J e.words)) := by
  induction e using PExpr.induct with
  | h op name n cons kids ih =>
    intro hs hr hb
    have hkr : ∀ x ∈ kids, x.Rng := by cases hr; assumption
    have hnr : i64ok n := by cases hr; assumption
    refine rshow_loop _ hs hnr hb (fun x hx => ih x hx (hs.kids.2 x hx) (hkr x hx) ?_)
    have : x.bulk ≤ PExpr.bulkL kids := by
      have hx' : x ∈ kids := hx
      clear hs hr hb hkr hx ih
      induction kids with
      | nil => cases hx'
      | cons y r ih =>
        simp only [PExpr.bulkL]
        rcases List.mem_cons.1 hx' with rfl | hx'
        · omega
        · have := ih hx'; omega
    simp only [PExpr.bulk] at hb
    omega
end Go.Ab
