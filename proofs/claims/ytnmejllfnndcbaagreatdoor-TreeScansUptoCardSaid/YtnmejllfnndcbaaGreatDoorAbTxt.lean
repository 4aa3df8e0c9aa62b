/- Texts of words. -/
import Derived.Test.YtnmejllfnndcbaaGreatDoorAbPrX
import Derived.Test.YtnmejllfnndcbaaGreatDoorAbPrN
import Derived.Test.YtnmejllfnndcbaaGreatDoorAbRight
set_option linter.unusedSimpArgs false
set_option linter.unusedVariables false
namespace Go.Ab
open Go Go.Ab.Tab
set_option maxRecDepth 100000
set_option maxHeartbeats 4000000
set_option linter.unusedSimpArgs false
def J (l : List Str) : Str := joinB [32] l
theorem J_nil : J [] = [] := rfl
theorem J_one (x : Str) : J [x] = x := rfl
theorem J_cons (x : Str) (l : List Str) (h : l ≠ []) : J (x :: l) = x ++ 32 :: J l := by
  cases l with
  | nil => exact absurd rfl h
  | cons y r => show x ++ [32] ++ joinB [32] (y :: r) = _; simp [J]
theorem J_app (a b : List Str) (ha : a ≠ []) (hb : b ≠ []) : J (a ++ b) = J a ++ 32 :: J b := by
  induction a with
  | nil => exact absurd rfl ha
  | cons x r ih =>
    cases r with
    | nil => simp only [List.cons_append, List.nil_append, J_cons x b hb, J_one]
    | cons y q =>
      rw [List.cons_append, J_cons x _ (by simp), ih (by simp), J_cons x (y :: q) (by simp)]
      simp
def T : List Str → Nat
  | [] => 0
  | x :: r => x.length + 1 + T r
theorem T_app (a b : List Str) : T (a ++ b) = T a + T b := by
  induction a with
  | nil => simp [T]
  | cons x r ih => simp only [List.cons_append, T, ih]; omega
theorem J_len (l : List Str) : (J l).length ≤ T l := by
  induction l with
  | nil => simp [J_nil, T]
  | cons x r ih =>
    cases r with
    | nil => simp [J_one, T]
    | cons y q =>
      rw [J_cons x _ (by simp)]
      simp only [List.length_append, List.length_cons, T] at ih ⊢
      omega
theorem T_len (l : List Str) : l.length ≤ T l := by
  induction l with
  | nil => simp [T]
  | cons x r ih => simp only [List.length_cons, T]; omega
theorem sepW_ne (s : Str) (x : List Str) (r : List (List Str)) (h : x ≠ []) : sepW s (x :: r) ≠ [] := by
  simp only [sepW]; intro e; exact h (List.append_eq_nil_iff.1 e).1
def sumT (L : List (List Str)) : Nat := (L.map T).sum
theorem sepW_T (s : Str) (L : List (List Str)) : T (sepW s L) ≤ sumT L + L.length * (s.length + 1) := by
  cases L with
  | nil => simp [sepW, T, sumT]
  | cons x r =>
    have : T (r.flatMap fun y => s :: y) = (r.map T).sum + r.length * (s.length + 1) := by
      induction r with
      | nil => simp [T]
      | cons y q ih =>
        simp only [List.flatMap_cons, List.cons_append, T, T_app, ih, List.map_cons, List.sum_cons, List.length_cons, Nat.add_mul, Nat.one_mul]
        omega
    simp only [sepW, T_app, this, sumT, List.map_cons, List.sum_cons, List.length_cons, Nat.add_mul]
    omega
theorem wordsOf_ind (p : List Str → Prop) (op : Int) (name : Str) (n : Int) (cons : List Str) (ks : List (List Str))
    (h1 : p [decB n])
    (h2 : p [boolW (n == 1)])
    (h3 : p [name])
    (h4 : p [name])
    (h5 : p ([[40], name] ++ kW ks 0 ++ [[41]]))
    (h6 : p (btwW (kW ks 0) name (kW ks 1)))
    (h7 : p ([[40], [105, 102]] ++ kW ks 0 ++ [[116, 104, 101, 110]] ++ kW ks 1 ++ [[101, 108, 115, 101]] ++ kW ks 2 ++ [[41]]))
    (h8 : p (btwW (kW ks 0) [102, 98, 121] (kW ks 1)))
    (h10 : p (btwW (kW ks 0) [45, 62] (kW ks 1)))
    (h15 : p (btwW (kW ks 0) [101, 118, 101, 114, 121] (kW ks 1)))
    (h9 : p ([[40], [112, 114, 101]] ++ kW ks 0 ++ [[41]]))
    (h11 : p ([[40]] ++ kW ks 0 ++ [[119, 104, 101, 110]] ++ listW cons [44] ++ [[40], name, [41], [41]]))
    (h12 : p (armsW [109, 101, 114, 103, 101] name cons ks))
    (h13 : p (armsW [109, 97, 116, 99, 104] name cons ks))
    (h14 : p (callW name cons ks))
    (h0 : p [[63]]) : p (wordsOf op name n cons ks) := by
  unfold wordsOf
  by_cases c1 : op = 1
  · rw [if_pos c1]; exact h1
  rw [if_neg c1]
  by_cases c2 : op = 2
  · rw [if_pos c2]; exact h2
  rw [if_neg c2]
  by_cases c3 : op = 3
  · rw [if_pos c3]; exact h3
  rw [if_neg c3]
  by_cases c4 : op = 4
  · rw [if_pos c4]; exact h4
  rw [if_neg c4]
  by_cases c5 : op = 5
  · rw [if_pos c5]; exact h5
  rw [if_neg c5]
  by_cases c6 : op = 6
  · rw [if_pos c6]; exact h6
  rw [if_neg c6]
  by_cases c7 : op = 7
  · rw [if_pos c7]; exact h7
  rw [if_neg c7]
  by_cases c8 : op = 8
  · rw [if_pos c8]; exact h8
  rw [if_neg c8]
  by_cases c10 : op = 10
  · rw [if_pos c10]; exact h10
  rw [if_neg c10]
  by_cases c15 : op = 15
  · rw [if_pos c15]; exact h15
  rw [if_neg c15]
  by_cases c9 : op = 9
  · rw [if_pos c9]; exact h9
  rw [if_neg c9]
  by_cases c11 : op = 11
  · rw [if_pos c11]; exact h11
  rw [if_neg c11]
  by_cases c12 : op = 12
  · rw [if_pos c12]; exact h12
  rw [if_neg c12]
  by_cases c13 : op = 13
  · rw [if_pos c13]; exact h13
  rw [if_neg c13]
  by_cases c14 : op = 14
  · rw [if_pos c14]; exact h14
  rw [if_neg c14]
  exact h0
theorem words_ne (e : PExpr) : e.words ≠ [] := by
  rw [words_eq]
  apply wordsOf_ind (fun l => l ≠ []) <;> simp [btwW, armsW, callW]
theorem decN_len : ∀ (f n : Nat), (decN f n).length ≤ f + 1
  | 0, n => by simp [decN]
  | f + 1, n => by
    unfold decN
    split
    · simp
    · have := decN_len f (n / 10)
      simp only [List.length_append, List.length_cons, List.length_nil]; omega
theorem decB_len (n : Int) : (decB n).length ≤ 22 := by
  unfold decB
  split
  · have := decN_len 20 n.natAbs; simp only [List.length_cons]; omega
  · have := decN_len 20 n.toNat; omega
theorem boolW_len (b : Bool) : (boolW b).length ≤ 5 := by cases b <;> simp [boolW]
theorem kW_T (ks : List (List Str)) : T (kW ks 0) + T (kW ks 1) + T (kW ks 2) ≤ sumT ks + 6 := by
  rcases ks with _ | ⟨a, _ | ⟨b, _ | ⟨c, r⟩⟩⟩ <;> simp [kW, T, sumT] <;> omega
def consT (l : List Str) : Nat := sumOf (fun s : Str => s.length + 1) l
theorem listW_T (l : List Str) (s : Str) : T (listW l s) ≤ consT l + l.length * (s.length + 1) := by
  have h := sepW_T s (l.map fun x => [x])
  have : sumT (l.map fun x => [x]) = consT l := by
    induction l with
    | nil => rfl
    | cons x r ih =>
      have := ih (sepW_T s (r.map fun x => [x]))
      simp only [sumT, consT, List.map_cons, List.sum_cons, sumOf, T] at this ⊢
      omega
  unfold listW
  rw [this, List.length_map] at h
  exact h
theorem armL_T (cons : List Str) (ks : List (List Str)) : sumT (armL cons ks) + (armL cons ks).length * 2 ≤ 6 * consT cons + sumT ks := by
  induction cons generalizing ks with
  | nil => simp [armL, sumT, consT, sumOf]
  | cons c r ih =>
    cases ks with
    | nil => simp [armL, sumT]
    | cons k q =>
      have := ih q
      simp only [armL, sumT, consT, List.zipWith_cons_cons, List.map_cons, List.sum_cons, List.length_cons, sumOf, T_app, T, List.length_nil] at this ⊢
      omega
theorem consT_len (l : List Str) : l.length ≤ consT l := sumOf_len _ (fun _ => by omega) l
theorem words_T (e : PExpr) : T e.words + 100 ≤ 40 * e.bulk := by
  induction e using PExpr.induct with
  | h op name n cons kids ih =>
    have hk : sumT (kids.map PExpr.words) + 100 * kids.length ≤ 40 * PExpr.bulkL kids ∧ kids.length ≤ PExpr.bulkL kids := by
      clear n
      induction kids with
      | nil => simp [sumT, PExpr.bulkL]
      | cons x r ihr =>
        have h1 := ih x (by simp)
        have h2 := ihr (fun k hk => ih k (by simp [hk]))
        have h3 : 6 ≤ x.bulk := by cases x; simp only [PExpr.bulk]; omega
        simp only [sumT, List.map_cons, List.sum_cons, PExpr.bulkL, List.length_cons] at h2 ⊢
        omega
    have hb : (PExpr.mk op name n cons kids).bulk = name.length + consT cons + PExpr.bulkL kids + 6 := by simp [PExpr.bulk, consT]
    rw [hb]
    simp only [PExpr.words, wordsL_map]
    have k0 := kW_T (kids.map PExpr.words)
    have d := decB_len n
    have b := boolW_len (n == 1)
    have l1 := listW_T cons [44]
    have l2 := consT_len cons
    have a1 := armL_T cons (kids.map PExpr.words)
    have a2 := sepW_T [124] (armL cons (kids.map PExpr.words))
    have c1 := sepW_T [44] (kids.map PExpr.words)
    simp only [List.length_map, List.length_cons, List.length_nil] at l1 a2 c1
    have l3 : cons.length = 0 → True := fun _ => trivial
    apply wordsOf_ind (fun l => T l + 100 ≤ 40 * (name.length + consT cons + PExpr.bulkL kids + 6))
    all_goals simp only [btwW, armsW, callW, brW, T_app, T, List.length_cons, List.length_nil]
    all_goals first | omega | (split <;> simp only [T_app, T, List.length_cons, List.length_nil] <;> omega)
end Go.Ab
/- An expression's text. -/
namespace Go.Ab
open Go Go.Ab.Tab
set_option maxRecDepth 100000
set_option maxHeartbeats 4000000
set_option linter.unusedSimpArgs false
theorem strsA_enc (l : List Str) : strsA (encS l) = some l := by
  induction l with
  | nil => rfl
  | cons x r ih => simp only [encS, List.map_cons] at ih ⊢; simp only [strsA, ih, Option.map_some]
theorem join_own (ws : List Str) (hl : T ws ≤ lenTop) (tk : Tk) (h : AHeap) : C 54 [.slice (encS ws) tk, .str [32]] h = some (.ret (.str (J ws)) .same) := by
  have h1 := T_len ws
  have h2 := J_len ws
  have m2 : lenTop = 1099511627776 := rfl
  have m3 : extMax = 140737488355328 := rfl
  unfold C
  rw [evC_ext ext_join]
  show (match strsA (encS ws) with | some l => if l.length ≤ extMax ∧ (joinB [32] l).length ≤ extMax then some (CR.ret (.str (joinB [32] l)) Eff.same) else none | none => none) = _
  rw [strsA_enc]
  have h3 : ws.length ≤ extMax ∧ (joinB [32] ws).length ≤ extMax := ⟨by omega, by unfold J at h2; omega⟩
  exact if_pos h3
theorem text_c (ws : List Str) (hl : T ws ≤ lenTop) : C 37 [.ptr 0 0] (pOwn 9 ws) = some (.ret (.str (J ws)) .same) := by
  have e1 : callA C [.box [.slice (encS ws) (.own 1)], .tok ws.length 9] 54 [.slice (encS ws) (.own 1), .str [32]] = some (.ret (.str (J ws)) .same) :=
    callA_idx [1] rfl rfl (by
      have e : renL (fun x => List.idxOf x [1]) [.slice (encS ws) (.own 1), .str [32]] = [.slice (encS ws) (.own 0), .str [32]] := rfl
      rw [e]; exact join_own ws hl _ _) rfl
  rw [C_fn rfl Go.Proofs.Tryz.func37 rfl (by kernel_rfl) (m := 7) rfl]; simp only [sims, core, pe, Nat.reduceAdd, Int.reduceBEq, Int.reduceBNe, Int.reduceLT, Int.reduceLE, Go.Proofs.Tryz.f37, fx_37, pOwn, e1, leave_clean 2 _ _ [] (by simp)]
theorem pr_read {f : FuncId} {v : AVal} {h : AHeap} {b t : Nat} {ws : List Str} (p : PrAt 9 h b ws (some t)) (e : C f [.ptr 0 0] (pOwn 9 ws) = some (.ret v .same)) (hv : refs v = []) : callA C h f [.ptr b 0] = some (.ret v .same) := by
  obtain ⟨hb, ht⟩ := p
  have hne : t ≠ b := by intro e; subst e; rw [hb] at ht; cases ht
  have hnb : (b == t) = false := beq_false_of_ne (Ne.symm hne)
  refine callA_idx [b, t] ?_ ?_ ?_ hv
  · simp [reach, refsL, refs, hb, ht, hne]
  · unfold subOk; simp [refsL, refs, hb, ht, blkRefs]
  · have hsub : subH h [b, t] = pOwn 9 ws := by
      simp only [subH, List.map_cons, List.map_nil, List.getD_eq_getElem?_getD, hb, ht, Option.getD_some, renB, ren_slice_own, pOwn, List.idxOf_cons, hnb, beq_self_eq_true, cond_true, cond_false]
    rw [hsub]
    simp only [renL, ren, List.idxOf_cons, beq_self_eq_true, cond_true]
    exact e
theorem show_c (e : PExpr) (hs : e.Small) (hr : e.Rng) (hb : e.bulk ≤ 1048576) : Ret C 21 [.agg e.cells] (.str (J e.words)) := by
  refine Ret.mk (by simp [refsL, refs, e.norefs]) rfl ?_
  have hT := words_T e
  have hTl := T_len e.words
  have m2 : lenTop = 1099511627776 := rfl
  have p0 : PrAt 9 [.box e.cells, .box [.slice [] .full]] 1 [] none := ⟨rfl, rfl⟩
  rw [C_fn rfl Go.Proofs.Tryz.func21 rfl (by kernel_rfl) (m := 10) rfl]; simp only [sims, core, pe, Nat.reduceAdd, Int.reduceBEq, Int.reduceBNe, Int.reduceLT, Int.reduceLE, Go.Proofs.Tryz.f21, fx_21]
  obtain ⟨E1, hE1, t, -, -, p1, o1, l1⟩ := pr_call keepC (prexpr_c e hs hr) (by simp [refsL, refs, e.norefs]) p0 (by simp only [List.length_nil]; omega)
  have hx := pr_read p1 (text_c ([] ++ e.words) (by simp only [List.nil_append]; omega)) rfl
  simp only [sims, core, pe, Nat.reduceAdd, Int.reduceBEq, Int.reduceBNe, Int.reduceLT, Int.reduceLE, effs, fx_21, hE1, hx]
end Go.Ab
/- A program's text. -/
namespace Go.Ab
open Go Go.Ab.Tab
set_option maxRecDepth 100000
set_option maxHeartbeats 4000000
set_option linter.unusedSimpArgs false
def enumW (t : PEnum) : List Str := [[116, 121, 112, 101], t.name, [61]] ++ listW t.cons [124] ++ [[59]]
def progW (p : PProg) : List Str := p.enums.flatMap enumW ++ p.nodes.flatMap nodeW
def printV (p : PProg) : AVal := if rightI false p = 0 then .tuple [.str (J (progW p)), .int .i64 0] else .tuple [.str [], .int .i64 (rightI false p)]
theorem print_c (p : PProg) (hs : p.Small) (hr : p.Rng) (hT : T (progW p) ≤ lenTop) : Ret C 13 [.agg p.cells] (printV p) := by
  refine Ret.mk (by simp [refsL, refs, p.norefs]) (by unfold printV; split <;> rfl) ?_
  have cr := right_c false p hs hr
  have hTl := T_len (progW p)
  have hlen : (progW p).length = (p.enums.flatMap enumW).length + (p.nodes.flatMap nodeW).length := by simp [progW]
  have hl1 := hs.1
  have hl2 := hs.2.2.1
  rw [C_fn rfl Go.Proofs.Tryz.func13 rfl (by kernel_rfl) (m := 49) rfl]; simp only [sims, core, pe, Nat.reduceAdd, Int.reduceBEq, Int.reduceBNe, Int.reduceLT, Int.reduceLE, Go.Proofs.Tryz.f13, fx_13, ty, cr _, bne]
  cases hz : rightI false p == 0
  · have hz' : ¬ rightI false p = 0 := by simpa using hz
    unfold printV
    rw [if_neg hz']
    simp only [sims, core, pe, Nat.reduceAdd, Int.reduceBEq, Int.reduceBNe, Int.reduceLT, Int.reduceLE, fx_13, hz]
  have hz' : rightI false p = 0 := by simpa using hz
  unfold printV
  rw [if_pos hz']
  have p0 : PrAt 9 [.box p.cells, .box [.slice [] .full]] 1 [] none := ⟨rfl, rfl⟩
  simp only [sims, core, pe, Nat.reduceAdd, Int.reduceBEq, Int.reduceBNe, Int.reduceLT, Int.reduceLE, effs, fx_13, ty, hz]
  generalize hbla : codeB PP cmp0 C lpC _ = fa; generalize hl0a : lpC fa _ = ra
  obtain ⟨exa, sa, rfl, rfl, h2a⟩ := lpC_inv (α := Nat) hl0a [7, 21, 22, 23, 24, 25, 26, 27, 28, 29, 30, 31, 32, 33, 34, 35, 36] (fun i => [(20, .int .i64 i)]) (fun i g => i ≤ p.enums.length ∧ (∃ tk, PrAt 9 g 1 ((p.enums.take i).flatMap enumW) tk) ∧ g[0]? = some (.box p.cells)) (fun i => p.enums.length - i) (fun _ => ()) (fun ts _ ex s => ex = .exit 0 ∧ OutT [7, 20, 21, 22, 23, 24, 25, 26, 27, 28, 29, 30, 31, 32, 33, 34, 35, 36] ts [] (fun g => (∃ tk, PrAt 9 g 1 (p.enums.flatMap enumW) tk) ∧ g[0]? = some (.box p.cells)) s) 0 ⟨Nat.zero_le _, ⟨none, by simpa using p0⟩, rfl⟩ (by simp only [AtT, ats, Int.natCast_zero]) (by
    rintro ia ja ga da ⟨hia, ⟨tka, pia⟩, qa_0⟩
    clear hl0a; subst hbla
    have hga0 : 1 < ga.length := by cases tka with
    | none => exact (List.getElem?_eq_some_iff.1 pia.2).1
    | some t => exact (List.getElem?_eq_some_iff.1 pia.1).1
    by_cases hlta : ia < p.enums.length
    · have e1a : ((ia : Int) < (p.enums.length : Int)) := by omega
      obtain ⟨xa, hxa⟩ : ∃ yy, yy = p.enums[ia] := ⟨_, rfl⟩
      have e3a : (p.enums.map PEnum.cells)[ia]? = some (PEnum.cells xa) := by simp [hlta, hxa]
      have hma : xa ∈ p.enums := by rw [hxa]; exact List.getElem_mem hlta
      have hqa := flat_take_len enumW p.enums (ia + 1)
      have hspa := flat_take enumW p.enums ia hlta
      rw [← hxa] at hspa
      rw [hspa] at hqa
      have hes := hs.2.1 xa hma
      have kl : PrV 35 [encStrs xa.cons, .str [124]] (listW xa.cons [124]) := list_c xa.cons [124] hes.2.1
      have hew : (enumW xa).length = 3 + (listW xa.cons [124]).length + 1 := by simp [enumW]; omega
      have bs_0 : (ga ++ [Blk.box xa.cells])[ga.length]? = some (.box xa.cells) := heap_at0 _ _
      have qb_0 : (ga ++ [Blk.box xa.cells])[0]? = some (.box p.cells) := Boxes.app _ _ _ _ qa_0
      simp only [sims, core, pe, Nat.reduceAdd, Int.reduceBEq, Int.reduceBNe, Int.reduceLT, Int.reduceLE, effs, fx_13, ty, bs_0, qb_0, e1a, e3a, qa_0]
      obtain ⟨E21, hE21, tt, htt, hnn, p21, o21, l21⟩ := pr_call keepC (show PrW 34 [.slice [[.str [116, 121, 112, 101]], [.str xa.name], [.str [61]]] .full] [[116, 121, 112, 101], xa.name, [61]] from put_c [[116, 121, 112, 101], xa.name, [61]] (by simp)) rfl (pia.app [.box xa.cells]) (by (try simp only [List.length_append, List.length_cons, List.length_nil] at hqa); (try simp only [List.length_append, List.length_cons, List.length_nil] at hlen); (try simp only [List.length_append, List.length_cons, List.length_nil]); omega)
      have bs_21 : (Eff.of (ga ++ [.box xa.cells]) E21)[ga.length]? = some (.box xa.cells) := o21 _ _ (by omega) bs_0
      have qb_21 : (Eff.of (ga ++ [.box xa.cells]) E21)[0]? = some (.box p.cells) := o21 _ _ (by omega) qb_0
      simp only [sims, core, pe, Nat.reduceAdd, Int.reduceBEq, Int.reduceBNe, Int.reduceLT, Int.reduceLE, effs, fx_13, ty, bs_21, qb_21, e1a, e3a, qa_0, hE21]
      clear hE21; generalize hh21 : Eff.of (ga ++ [.box xa.cells]) E21 = h21 at *; clear hh21
      obtain ⟨E22, hE22, p22, o22, l22⟩ := pr_callO keepC kl rfl p21 (by (try simp only [List.length_append, List.length_cons, List.length_nil] at hqa); (try simp only [List.length_append, List.length_cons, List.length_nil] at hlen); (try simp only [List.length_append, List.length_cons, List.length_nil]); omega)
      have bs_22 : (Eff.of h21 E22)[ga.length]? = some (.box xa.cells) := o22 _ _ (by omega) bs_21
      have qb_22 : (Eff.of h21 E22)[0]? = some (.box p.cells) := o22 _ _ (by omega) qb_21
      simp only [sims, core, pe, Nat.reduceAdd, Int.reduceBEq, Int.reduceBNe, Int.reduceLT, Int.reduceLE, effs, fx_13, ty, bs_22, qb_22, e1a, e3a, qa_0, hE22]
      clear hE22; generalize hh22 : Eff.of h21 E22 = h22 at *; clear hh22
      obtain ⟨E23, hE23, p23, o23, l23⟩ := pr_callO keepC (show PrW 34 [.slice [[.str [59]]] .full] [[59]] from put_c [[59]] (by simp)).own rfl p22 (by (try simp only [List.length_append, List.length_cons, List.length_nil] at hqa); (try simp only [List.length_append, List.length_cons, List.length_nil] at hlen); (try simp only [List.length_append, List.length_cons, List.length_nil]); omega)
      have bs_23 : (Eff.of h22 E23)[ga.length]? = some (.box xa.cells) := o23 _ _ (by omega) bs_22
      have qb_23 : (Eff.of h22 E23)[0]? = some (.box p.cells) := o23 _ _ (by omega) qb_22
      simp only [sims, core, pe, Nat.reduceAdd, Int.reduceBEq, Int.reduceBNe, Int.reduceLT, Int.reduceLE, effs, fx_13, ty, bs_23, qb_23, e1a, e3a, qa_0, hE23, wrap_nat (show ia ≤ lenTop by omega)]
      clear hE23; generalize hh23 : Eff.of h22 E23 = h23 at *; clear hh23
      exact .inl ⟨ia + 1, _, rfl, ⟨hlta, ⟨_, by rw [hspa, enumW]; simpa only [List.append_assoc, List.cons_append, List.nil_append] using p23⟩, qb_23⟩, by simp only [AtT, ats, Int.natCast_zero], by (try simp only []); omega, by first | rfl | trivial⟩
    · have e1a : ¬ ((ia : Int) < (p.enums.length : Int)) := by omega
      simp only [sims, core, pe, Nat.reduceAdd, Int.reduceBEq, Int.reduceBNe, Int.reduceLT, Int.reduceLE, effs, fx_13, ty, e1a]
      have : p.enums.take ia = p.enums := List.take_of_length_le (by omega)
      rw [this] at pia
      exact .inr ⟨_, _, rfl, by simp, rfl, ⟨by simp only [AtT, ats], ⟨tka, pia⟩, qa_0⟩⟩)
  obtain ⟨ja', Ha', da', ⟨⟨tka', pa'⟩, qa'⟩, rfl⟩ := h2a.elim
  clear hl0a
  simp only [sims, core, pe, Nat.reduceAdd, Int.reduceBEq, Int.reduceBNe, Int.reduceLT, Int.reduceLE, effs, fx_13, ty, qa']
  generalize hblb : codeB PP cmp0 C lpC _ = fb; generalize hl0b : lpC fb _ = rb
  obtain ⟨exb, sb, rfl, rfl, h2b⟩ := lpC_inv (α := Nat) hl0b [9, 41, 42, 43, 44, 45, 46, 47] (fun i => [(40, .int .i64 i)]) (fun i g => i ≤ p.nodes.length ∧ (∃ tk, PrAt 9 g 1 (p.enums.flatMap enumW ++ (p.nodes.take i).flatMap nodeW) tk) ∧ g[0]? = some (.box p.cells)) (fun i => p.nodes.length - i) (fun _ => ()) (fun ts _ ex s => ex = .exit 2 ∧ OutT [9, 40, 41, 42, 43, 44, 45, 46, 47] ts [] (fun g => (∃ tk, PrAt 9 g 1 (p.enums.flatMap enumW ++ p.nodes.flatMap nodeW) tk) ∧ g[0]? = some (.box p.cells)) s) 0 ⟨Nat.zero_le _, ⟨tka', by simpa using pa'⟩, qa'⟩ (by simp only [AtT, ats, Int.natCast_zero]) (by
    rintro ib jb gb db ⟨hib, ⟨tkb, pib⟩, qb_0⟩
    clear hl0b; subst hblb
    have hgb0 : 1 < gb.length := by cases tkb with
    | none => exact (List.getElem?_eq_some_iff.1 pib.2).1
    | some t => exact (List.getElem?_eq_some_iff.1 pib.1).1
    by_cases hltb : ib < p.nodes.length
    · have e1b : ((ib : Int) < (p.nodes.length : Int)) := by omega
      obtain ⟨xb, hxb⟩ : ∃ yy, yy = p.nodes[ib] := ⟨_, rfl⟩
      have e3b : (p.nodes.map PNode.cells)[ib]? = some (PNode.cells xb) := by simp [hltb, hxb]
      have hmb : xb ∈ p.nodes := by rw [hxb]; exact List.getElem_mem hltb
      have hqb := flat_take_len nodeW p.nodes (ib + 1)
      have hspb := flat_take nodeW p.nodes ib hltb
      rw [← hxb] at hspb
      rw [hspb] at hqb
      have kn := node_p xb (hs.2.2.2 xb hmb) (hr.2 xb hmb)
      have bs_0 : (gb ++ [Blk.box xb.cells])[gb.length]? = some (.box xb.cells) := heap_at0 _ _
      have qc_0 : (gb ++ [Blk.box xb.cells])[0]? = some (.box p.cells) := Boxes.app _ _ _ _ qb_0
      simp only [sims, core, pe, Nat.reduceAdd, Int.reduceBEq, Int.reduceBNe, Int.reduceLT, Int.reduceLE, effs, fx_13, ty, bs_0, qc_0, e1b, e3b, qb_0]
      obtain ⟨E41, hE41, tt, htt, hnn, p41, o41, l41⟩ := pr_call keepC kn (by simp [refsL, refs, xb.norefs]) (pib.app [.box xb.cells]) (by (try simp only [List.length_append, List.length_cons, List.length_nil] at hqb); (try simp only [List.length_append, List.length_cons, List.length_nil] at hlen); (try simp only [List.length_append, List.length_cons, List.length_nil]); omega)
      have bs_41 : (Eff.of (gb ++ [.box xb.cells]) E41)[gb.length]? = some (.box xb.cells) := o41 _ _ (by omega) bs_0
      have qc_41 : (Eff.of (gb ++ [.box xb.cells]) E41)[0]? = some (.box p.cells) := o41 _ _ (by omega) qc_0
      simp only [sims, core, pe, Nat.reduceAdd, Int.reduceBEq, Int.reduceBNe, Int.reduceLT, Int.reduceLE, effs, fx_13, ty, bs_41, qc_41, e1b, e3b, qb_0, hE41, wrap_nat (show ib ≤ lenTop by omega)]
      clear hE41; generalize hh41 : Eff.of (gb ++ [.box xb.cells]) E41 = h41 at *; clear hh41
      exact .inl ⟨ib + 1, _, rfl, ⟨hltb, ⟨_, by rw [hspb]; simpa only [List.append_assoc, List.cons_append, List.nil_append] using p41⟩, qc_41⟩, by simp only [AtT, ats, Int.natCast_zero], by (try simp only []); omega, by first | rfl | trivial⟩
    · have e1b : ¬ ((ib : Int) < (p.nodes.length : Int)) := by omega
      simp only [sims, core, pe, Nat.reduceAdd, Int.reduceBEq, Int.reduceBNe, Int.reduceLT, Int.reduceLE, effs, fx_13, ty, e1b]
      have : p.nodes.take ib = p.nodes := List.take_of_length_le (by omega)
      rw [this] at pib
      exact .inr ⟨_, _, rfl, by simp, rfl, ⟨by simp only [AtT, ats], ⟨tkb, pib⟩, qb_0⟩⟩)
  obtain ⟨jb', Hb', db', ⟨⟨tkb', pb'⟩, qb'⟩, rfl⟩ := h2b.elim
  clear hl0b
  have hne : p.nodes.length ≠ 0 := by
    intro h0
    unfold rightI progB at hz'
    rw [h0] at hz'
    simp at hz'
  obtain ⟨t, rfl⟩ : ∃ t, tkb' = some t := by
    cases tkb' with
    | some t => exact ⟨t, rfl⟩
    | none =>
      have h1 := pb'.1
      exfalso
      cases hn : p.nodes with
      | nil => rw [hn] at hne; exact hne rfl
      | cons n r => rw [hn] at h1; simp [nodeW] at h1
  have hx := pr_read pb' (text_c (progW p) hT) rfl
  simp only [sims, core, pe, Nat.reduceAdd, Int.reduceBEq, Int.reduceBNe, Int.reduceLT, Int.reduceLE, effs, fx_13, hx]
end Go.Ab
