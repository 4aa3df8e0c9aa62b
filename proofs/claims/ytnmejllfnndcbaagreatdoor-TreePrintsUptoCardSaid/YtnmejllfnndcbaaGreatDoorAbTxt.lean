/- Texts of words. -/
import Derived.Test.YtnmejllfnndcbaaGreatDoorAbPrX
set_option linter.unusedSimpArgs false
set_option linter.unusedVariables false
namespace Go.Ab
open Go Go.Ab.Tab
set_option maxRecDepth 100000
set_option maxHeartbeats 4000000
set_option linter.unusedSimpArgs false
def J (l : List Str) : Str := joinB [32] l
theorem J_nil : J [] = [] := rfl
theorem J_one (x : Str) : J [x] = x := rfl
theorem J_cons (x : Str) (l : List Str) (h : l ≠ []) : J (x :: l) = x ++ 32 :: J l := by
  cases l with
  | nil => exact absurd rfl h
  | cons y r => show x ++ [32] ++ joinB [32] (y :: r) = _; simp [J]
theorem J_app (a b : List Str) (ha : a ≠ []) (hb : b ≠ []) : J (a ++ b) = J a ++ 32 :: J b := by
  induction a with
  | nil => exact absurd rfl ha
  | cons x r ih =>
    cases r with
    | nil => simp only [List.cons_append, List.nil_append, J_cons x b hb, J_one]
    | cons y q =>
      rw [List.cons_append, J_cons x _ (by simp), ih (by simp), J_cons x (y :: q) (by simp)]
      simp
def T : List Str → Nat
  | [] => 0
  | x :: r => x.length + 1 + T r
theorem T_app (a b : List Str) : T (a ++ b) = T a + T b := by
  induction a with
  | nil => simp [T]
  | cons x r ih => simp only [List.cons_append, T, ih]; omega
theorem J_len (l : List Str) : (J l).length ≤ T l := by
  induction l with
  | nil => simp [J_nil, T]
  | cons x r ih =>
    cases r with
    | nil => simp [J_one, T]
    | cons y q =>
      rw [J_cons x _ (by simp)]
      simp only [List.length_append, List.length_cons, T] at ih ⊢
      omega
theorem T_len (l : List Str) : l.length ≤ T l := by
  induction l with
  | nil => simp [T]
  | cons x r ih => simp only [List.length_cons, T]; omega
theorem sepW_ne (s : Str) (x : List Str) (r : List (List Str)) (h : x ≠ []) : sepW s (x :: r) ≠ [] := by
  simp only [sepW]; intro e; exact h (List.append_eq_nil_iff.1 e).1
def sumT (L : List (List Str)) : Nat := (L.map T).sum
theorem sepW_T (s : Str) (L : List (List Str)) : T (sepW s L) ≤ sumT L + L.length * (s.length + 1) := by
  cases L with
  | nil => simp [sepW, T, sumT]
  | cons x r =>
    have : T (r.flatMap fun y => s :: y) = (r.map T).sum + r.length * (s.length + 1) := by
      induction r with
      | nil => simp [T]
      | cons y q ih =>
        simp only [List.flatMap_cons, List.cons_append, T, T_app, ih, List.map_cons, List.sum_cons, List.length_cons, Nat.add_mul, Nat.one_mul]
        omega
    simp only [sepW, T_app, this, sumT, List.map_cons, List.sum_cons, List.length_cons, Nat.add_mul]
    omega
theorem wordsOf_ind (p : List Str → Prop) (op : Int) (name : Str) (n : Int) (cons : List Str) (ks : List (List Str))
    (h1 : p [decB n])
    (h2 : p [boolW (n == 1)])
    (h3 : p [name])
    (h4 : p [name])
    (h5 : p ([[40], name] ++ kW ks 0 ++ [[41]]))
    (h6 : p (btwW (kW ks 0) name (kW ks 1)))
    (h7 : p ([[40], [105, 102]] ++ kW ks 0 ++ [[116, 104, 101, 110]] ++ kW ks 1 ++ [[101, 108, 115, 101]] ++ kW ks 2 ++ [[41]]))
    (h8 : p (btwW (kW ks 0) [102, 98, 121] (kW ks 1)))
    (h10 : p (btwW (kW ks 0) [45, 62] (kW ks 1)))
    (h15 : p (btwW (kW ks 0) [101, 118, 101, 114, 121] (kW ks 1)))
    (h9 : p ([[40], [112, 114, 101]] ++ kW ks 0 ++ [[41]]))
    (h11 : p ([[40]] ++ kW ks 0 ++ [[119, 104, 101, 110]] ++ listW cons [44] ++ [[40], name, [41], [41]]))
    (h12 : p (armsW [109, 101, 114, 103, 101] name cons ks))
    (h13 : p (armsW [109, 97, 116, 99, 104] name cons ks))
    (h14 : p (callW name cons ks))
    (h0 : p [[63]]) : p (wordsOf op name n cons ks) := by
  unfold wordsOf
  by_cases c1 : op = 1
  · rw [if_pos c1]; exact h1
  rw [if_neg c1]
  by_cases c2 : op = 2
  · rw [if_pos c2]; exact h2
  rw [if_neg c2]
  by_cases c3 : op = 3
  · rw [if_pos c3]; exact h3
  rw [if_neg c3]
  by_cases c4 : op = 4
  · rw [if_pos c4]; exact h4
  rw [if_neg c4]
  by_cases c5 : op = 5
  · rw [if_pos c5]; exact h5
  rw [if_neg c5]
  by_cases c6 : op = 6
  · rw [if_pos c6]; exact h6
  rw [if_neg c6]
  by_cases c7 : op = 7
  · rw [if_pos c7]; exact h7
  rw [if_neg c7]
  by_cases c8 : op = 8
  · rw [if_pos c8]; exact h8
  rw [if_neg c8]
  by_cases c10 : op = 10
  · rw [if_pos c10]; exact h10
  rw [if_neg c10]
  by_cases c15 : op = 15
  · rw [if_pos c15]; exact h15
  rw [if_neg c15]
  by_cases c9 : op = 9
  · rw [if_pos c9]; exact h9
  rw [if_neg c9]
  by_cases c11 : op = 11
  · rw [if_pos c11]; exact h11
  rw [if_neg c11]
  by_cases c12 : op = 12
  · rw [if_pos c12]; exact h12
  rw [if_neg c12]
  by_cases c13 : op = 13
  · rw [if_pos c13]; exact h13
  rw [if_neg c13]
  by_cases c14 : op = 14
  · rw [if_pos c14]; exact h14
  rw [if_neg c14]
  exact h0
theorem words_ne (e : PExpr) : e.words ≠ [] := by
  rw [words_eq]
  apply wordsOf_ind (fun l => l ≠ []) <;> simp [btwW, armsW, callW]
theorem decN_len : ∀ (f n : Nat), (decN f n).length ≤ f + 1
  | 0, n => by simp [decN]
  | f + 1, n => by
    unfold decN
    split
    · simp
    · have := decN_len f (n / 10)
      simp only [List.length_append, List.length_cons, List.length_nil]; omega
theorem decB_len (n : Int) : (decB n).length ≤ 22 := by
  unfold decB
  split
  · have := decN_len 20 n.natAbs; simp only [List.length_cons]; omega
  · have := decN_len 20 n.toNat; omega
theorem boolW_len (b : Bool) : (boolW b).length ≤ 5 := by cases b <;> simp [boolW]
theorem kW_T (ks : List (List Str)) : T (kW ks 0) + T (kW ks 1) + T (kW ks 2) ≤ sumT ks + 6 := by
  rcases ks with _ | ⟨a, _ | ⟨b, _ | ⟨c, r⟩⟩⟩ <;> simp [kW, T, sumT] <;> omega
def consT (l : List Str) : Nat := sumOf (fun s : Str => s.length + 1) l
theorem listW_T (l : List Str) (s : Str) : T (listW l s) ≤ consT l + l.length * (s.length + 1) := by
  have h := sepW_T s (l.map fun x => [x])
  have : sumT (l.map fun x => [x]) = consT l := by
    induction l with
    | nil => rfl
    | cons x r ih =>
      have := ih (sepW_T s (r.map fun x => [x]))
      simp only [sumT, consT, List.map_cons, List.sum_cons, sumOf, T] at this ⊢
      omega
  unfold listW
  rw [this, List.length_map] at h
  exact h
theorem armL_T (cons : List Str) (ks : List (List Str)) : sumT (armL cons ks) + (armL cons ks).length * 2 ≤ 6 * consT cons + sumT ks := by
  induction cons generalizing ks with
  | nil => simp [armL, sumT, consT, sumOf]
  | cons c r ih =>
    cases ks with
    | nil => simp [armL, sumT]
    | cons k q =>
      have := ih q
      simp only [armL, sumT, consT, List.zipWith_cons_cons, List.map_cons, List.sum_cons, List.length_cons, sumOf, T_app, T, List.length_nil] at this ⊢
      omega
theorem consT_len (l : List Str) : l.length ≤ consT l := sumOf_len _ (fun _ => by omega) l
theorem words_T (e : PExpr) : T e.words + 100 ≤ 40 * e.bulk := by
  induction e using PExpr.induct with
  | h op name n cons kids ih =>
    have hk : sumT (kids.map PExpr.words) + 100 * kids.length ≤ 40 * PExpr.bulkL kids ∧ kids.length ≤ PExpr.bulkL kids := by
      clear n
      induction kids with
      | nil => simp [sumT, PExpr.bulkL]
      | cons x r ihr =>
        have h1 := ih x (by simp)
        have h2 := ihr (fun k hk => ih k (by simp [hk]))
        have h3 : 6 ≤ x.bulk := by cases x; simp only [PExpr.bulk]; omega
        simp only [sumT, List.map_cons, List.sum_cons, PExpr.bulkL, List.length_cons] at h2 ⊢
        omega
    have hb : (PExpr.mk op name n cons kids).bulk = name.length + consT cons + PExpr.bulkL kids + 6 := by simp [PExpr.bulk, consT]
    rw [hb]
    simp only [PExpr.words, wordsL_map]
    have k0 := kW_T (kids.map PExpr.words)
    have d := decB_len n
    have b := boolW_len (n == 1)
    have l1 := listW_T cons [44]
    have l2 := consT_len cons
    have a1 := armL_T cons (kids.map PExpr.words)
    have a2 := sepW_T [124] (armL cons (kids.map PExpr.words))
    have c1 := sepW_T [44] (kids.map PExpr.words)
    simp only [List.length_map, List.length_cons, List.length_nil] at l1 a2 c1
    have l3 : cons.length = 0 → True := fun _ => trivial
    apply wordsOf_ind (fun l => T l + 100 ≤ 40 * (name.length + consT cons + PExpr.bulkL kids + 6))
    all_goals simp only [btwW, armsW, callW, brW, T_app, T, List.length_cons, List.length_nil]
    all_goals first | omega | (split <;> simp only [T_app, T, List.length_cons, List.length_nil] <;> omega)
end Go.Ab
/- An expression's text. -/
namespace Go.Ab
open Go Go.Ab.Tab
set_option maxRecDepth 100000
set_option maxHeartbeats 4000000
set_option linter.unusedSimpArgs false
theorem strsA_enc (l : List Str) : strsA (encS l) = some l := by
  induction l with
  | nil => rfl
  | cons x r ih => simp only [encS, List.map_cons] at ih ⊢; simp only [strsA, ih, Option.map_some]
theorem join_own (ws : List Str) (hl : T ws ≤ lenTop) (tk : Tk) (h : AHeap) : C 54 [.slice (encS ws) tk, .str [32]] h = some (.ret (.str (J ws)) .same) := by
  have h1 := T_len ws
  have h2 := J_len ws
  have m2 : lenTop = 1099511627776 := rfl
  have m3 : extMax = 140737488355328 := rfl
  unfold C
  rw [evC_ext ext_join]
  show (match strsA (encS ws) with | some l => if l.length ≤ extMax ∧ (joinB [32] l).length ≤ extMax then some (CR.ret (.str (joinB [32] l)) Eff.same) else none | none => none) = _
  rw [strsA_enc]
  have h3 : ws.length ≤ extMax ∧ (joinB [32] ws).length ≤ extMax := ⟨by omega, by unfold J at h2; omega⟩
  exact if_pos h3
theorem text_c (ws : List Str) (hl : T ws ≤ lenTop) : C 37 [.ptr 0 0] (pOwn 9 ws) = some (.ret (.str (J ws)) .same) := by
  have e1 : callA C [.box [.slice (encS ws) (.own 1)], .tok ws.length 9] 54 [.slice (encS ws) (.own 1), .str [32]] = some (.ret (.str (J ws)) .same) :=
    callA_idx [1] rfl rfl (by
      have e : renL (fun x => List.idxOf x [1]) [.slice (encS ws) (.own 1), .str [32]] = [.slice (encS ws) (.own 0), .str [32]] := rfl
      rw [e]; exact join_own ws hl _ _) rfl
  rw [C_fn rfl Go.Proofs.Tryz.func37 rfl (by kernel_rfl) (m := 7) rfl]; simp only [sims, core, pe, Nat.reduceAdd, Int.reduceBEq, Int.reduceBNe, Int.reduceLT, Int.reduceLE, Go.Proofs.Tryz.f37, fx_37, pOwn, e1, leave_clean 2 _ _ [] (by simp)]
theorem pr_read {f : FuncId} {v : AVal} {h : AHeap} {b t : Nat} {ws : List Str} (p : PrAt 9 h b ws (some t)) (e : C f [.ptr 0 0] (pOwn 9 ws) = some (.ret v .same)) (hv : refs v = []) : callA C h f [.ptr b 0] = some (.ret v .same) := by
  obtain ⟨hb, ht⟩ := p
  have hne : t ≠ b := by intro e; subst e; rw [hb] at ht; cases ht
  have hnb : (b == t) = false := beq_false_of_ne (Ne.symm hne)
  refine callA_idx [b, t] ?_ ?_ ?_ hv
  · simp [reach, refsL, refs, hb, ht, hne]
  · unfold subOk; simp [refsL, refs, hb, ht, blkRefs]
  · have hsub : subH h [b, t] = pOwn 9 ws := by
      simp only [subH, List.map_cons, List.map_nil, List.getD_eq_getElem?_getD, hb, ht, Option.getD_some, renB, ren_slice_own, pOwn, List.idxOf_cons, hnb, beq_self_eq_true, cond_true, cond_false]
    rw [hsub]
    simp only [renL, ren, List.idxOf_cons, beq_self_eq_true, cond_true]
    exact e
theorem show_c (e : PExpr) (hs : e.Small) (hr : e.Rng) (hb : e.bulk ≤ 1048576) : Ret C 21 [.agg e.cells] (.str (J e.words)) := by
  refine Ret.mk (by simp [refsL, refs, e.norefs]) rfl ?_
  have hT := words_T e
  have hTl := T_len e.words
  have m2 : lenTop = 1099511627776 := rfl
  have p0 : PrAt 9 [.box e.cells, .box [.slice [] .full]] 1 [] none := ⟨rfl, rfl⟩
  rw [C_fn rfl Go.Proofs.Tryz.func21 rfl (by kernel_rfl) (m := 10) rfl]; simp only [sims, core, pe, Nat.reduceAdd, Int.reduceBEq, Int.reduceBNe, Int.reduceLT, Int.reduceLE, Go.Proofs.Tryz.f21, fx_21]
  obtain ⟨E1, hE1, t, -, -, p1, o1, l1⟩ := pr_call keepC (prexpr_c e hs hr) (by simp [refsL, refs, e.norefs]) p0 (by simp only [List.length_nil]; omega)
  have hx := pr_read p1 (text_c ([] ++ e.words) (by simp only [List.nil_append]; omega)) rfl
  simp only [sims, core, pe, Nat.reduceAdd, Int.reduceBEq, Int.reduceBNe, Int.reduceLT, Int.reduceLE, effs, fx_21, hE1, hx]
end Go.Ab
/- The reference: lists of texts. -/
namespace Go.Ab
open Go Go.Ab.Tab
set_option maxRecDepth 100000
set_option maxHeartbeats 4000000
set_option linter.unusedSimpArgs false
def LSr (sign : Str) (l : List Str) : Str := l.flatMap fun y => 32 :: (sign ++ 32 :: y)
def LS (sign : Str) : List Str → Str
  | [] => []
  | x :: r => x ++ LSr sign r
def LSi (sign : Str) (i : Nat) (l : List Str) : Str := if i = 0 then LS sign l else LSr sign l
theorem LSi_succ (sign : Str) (i : Nat) (l : List Str) : LSi sign (i + 1) l = LSr sign l := by unfold LSi; rw [if_neg (by omega)]
theorem LS_J (sign : Str) (L : List (List Str)) (h : ∀ x ∈ L, x ≠ []) : LS sign (L.map J) = J (sepW sign L) := by
  cases L with
  | nil => rfl
  | cons x r =>
    have key : ∀ (r : List (List Str)) (a : List Str), a ≠ [] → (∀ y ∈ r, y ≠ []) → J a ++ LSr sign (r.map J) = J (a ++ r.flatMap fun y => sign :: y) := by
      intro r
      induction r with
      | nil => intro a _ _; simp [LSr]
      | cons y q ih =>
        intro a ha hr
        have hy := hr y (by simp)
        have := ih (a ++ sign :: y) (by simp) (fun z hz => hr z (by simp [hz]))
        simp only [List.flatMap_cons, List.map_cons, LSr, List.append_assoc, List.cons_append] at this ⊢
        rw [← this, J_app a (sign :: y) ha (by simp), J_cons sign y hy]
        simp
    simp only [List.map_cons, LS, sepW]
    exact key r x (h x (by simp)) (fun y hy => h y (by simp [hy]))
theorem LSr_len (sign : Str) (l : List Str) : (LSr sign l).length ≤ T l + l.length * (sign.length + 1) := by
  induction l with
  | nil => simp [LSr, T]
  | cons x r ih =>
    simp only [LSr, List.flatMap_cons, List.length_append, List.length_cons, T, Nat.add_mul] at ih ⊢
    omega
theorem LS_len (sign : Str) (l : List Str) : (LS sign l).length ≤ T l + l.length * (sign.length + 1) := by
  cases l with
  | nil => simp [LS]
  | cons x r =>
    have := LSr_len sign r
    simp only [LS, List.length_append, T, List.length_cons, Nat.add_mul] at this ⊢
    omega
theorem rlist_c (l : List Str) (sign : Str) (hl : T l + l.length * (sign.length + 1) + sign.length ≤ lenTop) (tk : Tk) (B : AHeap) : C 48 [.slice (encS l) tk, .str sign] B = some (.ret (.str (LS sign l)) .same) := by
  have hln := LS_len sign l
  have hln2 := T_len l
  have m1 : strMax = 4611686018427387904 := rfl
  have m2 : lenTop = 1099511627776 := rfl
  rw [C_fn rfl Go.Proofs.Tryz.func48 rfl (by kernel_rfl) (m := 25) rfl]; simp only [sims, core, pe, Nat.reduceAdd, Int.reduceBEq, Int.reduceBNe, Int.reduceLT, Int.reduceLE, Go.Proofs.Tryz.f48, fx_48, encS]
  generalize hb : codeB PP cmp0 C lpC _ = f; generalize hl0 : lpC f _ = r
  obtain ⟨ex, s', rfl, rfl, h2⟩ := lpC_atD (α := Nat × Str) B.length hl0 [7, 8, 9, 10, 11, 12, 13, 14, 15, 16, 17, 18, 19, 20, 21, 22, 23, 24, 25] (fun a => [(6, .int .i64 a.1), (5, .str a.2)]) (fun a => a.1 ≤ l.length ∧ a.2 ++ LSi sign a.1 (l.drop a.1) = LS sign l) (fun a => l.length - a.1) (fun a => a.2 ++ LSi sign a.1 (l.drop a.1))
    (fun ts H r ex st => ex = .exit 0 ∧ AtD B.length [6, 7, 8, 9, 10, 11, 12, 13, 14, 15, 16, 17, 18, 19, 20, 21, 22, 23, 24, 25] ts H [(5, .str r)] st) (0, []) ⟨Nat.zero_le _, rfl⟩ ⟨by simp only [At, ats, Int.natCast_zero, List.drop_length, List.append_nil], by simp⟩ (by
      rintro ⟨i, s⟩ j H d ⟨hi, hs⟩ hd
      clear hl0; subst hb
      simp only at hi hs
      have hsl := congrArg List.length hs
      simp only [List.length_append] at hsl
      by_cases hlt : i < l.length
      · have e1 : ((i : Int) < (l.length : Int)) := by omega
        have e3 := strs_get l i hlt
        rcases i with _ | i
        · have e4 : decide ((0 : Int) < ((0 : Nat) : Int)) = false := rfl
          have e5 : decide ((0 : Int) < 0) = false := rfl
          have hq0 : LSi sign 0 (l.drop 0) = l[0] ++ LSr sign (l.drop (0 + 1)) := by
            unfold LSi; rw [if_pos rfl, List.drop_eq_getElem_cons hlt]; rfl
          rw [hq0, List.length_append] at hsl
          simp only [sims, core, pe, Nat.reduceAdd, Int.reduceBEq, Int.reduceBNe, Int.reduceLT, Int.reduceLE, fx_48, e1, e3, e4, e5]
          rw [bin_cat]
          case hl => ((try simp only [List.length_append, List.length_cons, List.length_nil]); omega)
          simp only [sims, core, pe, Nat.reduceAdd, Int.reduceBEq, Int.reduceBNe, Int.reduceLT, Int.reduceLE, fx_48, wrap_nat (show 0 ≤ lenTop by omega)]
          exact .inl ⟨(0 + 1, s ++ l[0]), _, rfl, ⟨hlt, by rw [← hs, hq0, LSi_succ, List.append_assoc]⟩, ⟨by simp only [At, ats, Int.natCast_zero, List.drop_left], hd⟩, by (try simp only []); omega, by simp only [hq0, LSi_succ, List.append_assoc]⟩
        · have e4 : decide ((0 : Int) < ((i + 1 : Nat) : Int)) = true := decide_eq_true (by omega)
          have hq : (LSi sign (i + 1) (l.drop (i + 1))).length = l[i + 1].length + sign.length + 2 + (LSr sign (l.drop (i + 1 + 1))).length := by
            simp only [LSi, List.drop_eq_getElem_cons hlt, LSr, List.flatMap_cons]
            simp
            omega
          have hq2 : LSi sign (i + 1) (l.drop (i + 1)) = (32 :: (sign ++ 32 :: l[i + 1])) ++ LSr sign (l.drop (i + 1 + 1)) := by
            rw [LSi_succ, List.drop_eq_getElem_cons hlt, LSr, List.flatMap_cons]; rfl
          simp only [sims, core, pe, Nat.reduceAdd, Int.reduceBEq, Int.reduceBNe, Int.reduceLT, Int.reduceLE, fx_48, e1, e3, e4]
          rw [bin_cat]
          case hl => ((try simp only [List.length_append, List.length_cons, List.length_nil]); omega)
          simp only [sims, core, pe, Nat.reduceAdd, Int.reduceBEq, Int.reduceBNe, Int.reduceLT, Int.reduceLE, fx_48, e3]
          rw [bin_cat]
          case hl => ((try simp only [List.length_append, List.length_cons, List.length_nil]); omega)
          simp only [sims, core, pe, Nat.reduceAdd, Int.reduceBEq, Int.reduceBNe, Int.reduceLT, Int.reduceLE, fx_48, e3]
          rw [bin_cat]
          case hl => ((try simp only [List.length_append, List.length_cons, List.length_nil]); omega)
          simp only [sims, core, pe, Nat.reduceAdd, Int.reduceBEq, Int.reduceBNe, Int.reduceLT, Int.reduceLE, fx_48, e3]
          rw [bin_cat]
          case hl => ((try simp only [List.length_append, List.length_cons, List.length_nil]); omega)
          simp only [sims, core, pe, Nat.reduceAdd, Int.reduceBEq, Int.reduceBNe, Int.reduceLT, Int.reduceLE, fx_48, e3, wrap_nat (show i + 1 ≤ lenTop by omega)]
          exact .inl ⟨(i + 1 + 1, s ++ (32 :: (sign ++ 32 :: l[i + 1]))), _, rfl, ⟨hlt, by rw [← hs, hq2, LSi_succ, List.append_assoc]⟩, ⟨by simp only [At, ats, Int.natCast_zero, List.drop_left, List.append_assoc, List.cons_append, List.nil_append], hd⟩, by (try simp only []); omega, by simp only [hq2, LSi_succ, List.append_assoc]⟩
      · have e1 : ¬ ((i : Int) < (l.length : Int)) := by omega
        simp only [sims, core, pe, Nat.reduceAdd, Int.reduceBEq, Int.reduceBNe, Int.reduceLT, Int.reduceLE, fx_48, e1]
        exact .inr ⟨_, _, rfl, by simp, rfl, by
          have : LSi sign i (l.drop i) = [] := by rw [List.drop_eq_nil_of_le (by omega)]; unfold LSi; split <;> rfl
          simp only [this, List.append_nil]
          exact ⟨by simp only [At, ats, Int.natCast_zero, List.drop_left], hd⟩⟩)
  obtain ⟨j, H, d, hd, rfl⟩ := h2.elim
  clear hl0
  simp only [sims, core, pe, Nat.reduceAdd, Int.reduceBEq, Int.reduceBNe, Int.reduceLT, Int.reduceLE, fx_48, leave_clean B.length _ _ d hd, refs_str]
  rfl
theorem callA_tk {f : FuncId} {es : List (List AVal)} {tk : Tk} {s v : AVal} {H : AHeap} (hs : refs s = []) (hren : ∀ σ, ren σ s = s) (c : ∀ tk B, C f [.slice es tk, s] B = some (.ret v .same)) (hv : refs v = []) (ht : ∀ t, tk = .own t → ∃ k e, H[t]? = some (.tok k e)) :
    callA C H f [.slice es tk, s] = some (.ret v .same) := by
  cases tk with
  | free => exact callA_idx [] (by simp [refsL, refs, hs, reach]) (by simp [subOk, refsL, refs, hs]) (by simp only [renL, ren, hren]; exact c _ _) hv
  | full => exact callA_idx [] (by simp [refsL, refs, hs, reach]) (by simp [subOk, refsL, refs, hs]) (by simp only [renL, ren, hren]; exact c _ _) hv
  | own t =>
    obtain ⟨k, e, hk⟩ := ht t rfl
    exact callA_idx [t] (by simp [refsL, refs, hs, reach, hk]) (by simp [subOk, refsL, refs, hs, hk, blkRefs]) (by simp only [renL, ren, hren]; exact c _ _) hv
def padS (l : List Str) (sign : Str) : Str := if l.length = 0 then [] else 32 :: LS sign l
theorem rpad_c (l : List Str) (sign : Str) (hl : T l + l.length * (sign.length + 1) + sign.length ≤ lenTop) (tk : Tk) (B : AHeap) (ht : ∀ t, tk = .own t → ∃ k e, B[t]? = some (.tok k e)) : C 47 [.slice (encS l) tk, .str sign] B = some (.ret (.str (padS l sign)) .same) := by
  have hln := LS_len sign l
  have m1 : strMax = 4611686018427387904 := rfl
  have m2 : lenTop = 1099511627776 := rfl
  have e1 := callA_tk (H := B) (tk := tk) rfl (fun _ => rfl) (rlist_c l sign hl) rfl ht
  have hn : (encS l).length = l.length := encS_len l
  by_cases hz : l.length = 0
  · have e0 : ((l.length : Int) == 0) = true := by simp [hz]
    unfold padS; rw [if_pos hz]
    rw [C_fn rfl Go.Proofs.Tryz.func47 rfl (by kernel_rfl) (m := 10) rfl]; simp only [sims, core, pe, Nat.reduceAdd, Int.reduceBEq, Int.reduceBNe, Int.reduceLT, Int.reduceLE, Go.Proofs.Tryz.f47, fx_47, hn, e0, leave_clean B.length _ _ [] (by simp), refs_str]
  · have e0 : ((l.length : Int) == 0) = false := beq_false_of_ne (by omega)
    unfold padS; rw [if_neg hz]
    rw [C_fn rfl Go.Proofs.Tryz.func47 rfl (by kernel_rfl) (m := 10) rfl]; simp only [sims, core, pe, Nat.reduceAdd, Int.reduceBEq, Int.reduceBNe, Int.reduceLT, Int.reduceLE, Go.Proofs.Tryz.f47, fx_47, hn, e0, e1]
    rw [bin_cat]
    case hl => ((try simp only [List.length_append, List.length_cons, List.length_nil]); omega)
    simp only [sims, core, pe, Nat.reduceAdd, Int.reduceBEq, Int.reduceBNe, Int.reduceLT, Int.reduceLE, fx_47, leave_clean B.length _ _ [] (by simp), refs_str]
end Go.Ab
