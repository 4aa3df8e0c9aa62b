/- The reference: the same items, the same programs. -/
import Derived.Test.YtnmejllfnndcbaaGreatDoorAbSameT
import Derived.Test.YtnmejllfnndcbaaGreatDoorAbRight
set_option linter.unusedSimpArgs false
set_option linter.unusedVariables false
namespace Go.Ab
open Go Go.Ab.Tab
set_option maxRecDepth 100000
set_option maxHeartbeats 4000000
set_option linter.unusedSimpArgs false
theorem bne_len {α : Type} (l m : List α) (h : ¬ l.length = m.length) : ((l.length : Int) != (m.length : Int)) = true := by simp; omega
theorem beq_lenI {α : Type} (l m : List α) (h : l.length = m.length) : ((l.length : Int) != (m.length : Int)) = false := by simp [h]
theorem dec_a1 (a b : Nat) : decide (a + 1 < a + (b + 1 + 1)) = true := decide_eq_true (by omega)
theorem dec_a0 (a b : Nat) : decide (a < a + (b + 1 + 1)) = true := decide_eq_true (by omega)
theorem dec_b0 (a b : Nat) : decide (a + b ≤ a + (b + 1)) = true := decide_eq_true (by omega)
theorem dec_b1 (a b c : Nat) : decide (a + b + 1 + 1 ≤ a + (b + c) + 1 + 1) = true := decide_eq_true (by omega)
theorem dec_c0 (a b c : Nat) : decide (a + b < a + (b + (c + 1 + 1))) = true := decide_eq_true (by omega)
theorem dec_c1 (a b c : Nat) : decide (a + (b + 1) < a + (b + (c + 1 + 1))) = true := decide_eq_true (by omega)
theorem rsameItem_c (a b : PItem) (sa : a.Small) (sb : b.Small) : Ret C 44 [.agg a.cells, .agg b.cells] (.bool (a.same b)) := by
  refine Ret.mk (by simp [refsL, refs, a.norefs, b.norefs]) rfl ?_
  have e1 : Ret C 71 [.slice [a.eq.cells] .full, .slice [b.eq.cells] .full] (.bool (a.eq.same b.eq && true)) := rsameEqs_c [a.eq] [b.eq] (by simp [lenTop]) .full (.inr rfl) (fun x hx => by obtain rfl := List.mem_singleton.1 hx; exact sa.1) (fun x hx => by obtain rfl := List.mem_singleton.1 hx; exact sb.1)
  have hl1 := sa.2.1
  have es : a.same b = (a.eq.same b.eq && allEq PState.same a.states b.states) := rfl
  rw [es]
  rw [C_fn rfl Go.Proofs.Tryz.func44 rfl (by kernel_rfl) (m := 99) rfl]; simp only [sims, core, pe, Nat.reduceAdd, Int.reduceBEq, Int.reduceBNe, Int.reduceLT, Int.reduceLE, Go.Proofs.Tryz.f44, fx_44, ty, e1 _]
  cases h0 : a.eq.same b.eq
  · simp only [sims, core, pe, Nat.reduceAdd, Int.reduceBEq, Int.reduceBNe, Int.reduceLT, Int.reduceLE, fx_44, ty, dec_a1, dec_a0, dec_b0, dec_c0, dec_c1, h0]
  by_cases hlen : a.states.length = b.states.length
  rotate_left
  · have hn := bne_len _ _ hlen
    simp only [sims, core, pe, Nat.reduceAdd, Int.reduceBEq, Int.reduceBNe, Int.reduceLT, Int.reduceLE, fx_44, ty, dec_a1, dec_a0, dec_b0, dec_c0, dec_c1, h0, hn, allEq_len PState.same a.states b.states hlen]
  have hn := beq_lenI _ _ hlen
  simp only [sims, core, pe, Nat.reduceAdd, Int.reduceBEq, Int.reduceBNe, Int.reduceLT, Int.reduceLE, fx_44, ty, dec_a1, dec_a0, dec_b0, dec_c0, dec_c1, h0, hn]
  generalize hba : codeB PP cmp0 C lpC _ = fa; generalize hla : lpC fa _ = ra
  obtain ⟨exa, sa, rfl, h2a⟩ := lpC_at (α := Nat) hla [4, 6, 7, 8, 26, 27, 28, 29, 30, 31, 32, 33, 34, 35, 36, 37, 38, 39, 40, 41, 42, 43, 44, 45, 46, 47, 48, 49, 50, 51, 52, 53, 54, 55, 56, 57, 58, 59, 60, 61, 62, 63, 64, 65, 66, 67, 68, 69, 70, 71, 72, 73, 74, 75, 76, 77, 78, 79, 80, 81, 82, 83, 84, 85, 86, 87, 88, 89, 90, 91, 92, 93, 94, 95, 96, 97, 98, 99, 100] (fun i => [(5, .int .i64 i)]) (fun i => i ≤ a.states.length) (fun i => a.states.length - i) (fun i => allEq PState.same (a.states.drop i) (b.states.drop i))
    (AllPostE 0 [4, 5, 6, 7, 8, 26, 27, 28, 29, 30, 31, 32, 33, 34, 35, 36, 37, 38, 39, 40, 41, 42, 43, 44, 45, 46, 47, 48, 49, 50, 51, 52, 53, 54, 55, 56, 57, 58, 59, 60, 61, 62, 63, 64, 65, 66, 67, 68, 69, 70, 71, 72, 73, 74, 75, 76, 77, 78, 79, 80, 81, 82, 83, 84, 85, 86, 87, 88, 89, 90, 91, 92, 93, 94, 95, 96, 97, 98, 99, 100] [5, 6, 7, 8, 26, 27, 28, 29, 30, 31, 32, 33, 34, 35, 36, 37, 38, 39, 40, 41, 42, 43, 44, 45, 46, 47, 48, 49, 50, 51, 52, 53, 54, 55, 56, 57, 58, 59, 60, 61, 62, 63, 64, 65, 66, 67, 68, 69, 70, 71, 72, 73, 74, 75, 76, 77, 78, 79, 80, 81, 82, 83, 84, 85, 86, 87, 88, 89, 90, 91, 92, 93, 94, 95, 96, 97, 98, 99, 100] 4) 0 (Nat.zero_le _) (At.of [] (by simp only [ats, Int.natCast_zero]) (by simp only [List.append_nil])) (by
      intro ia ja Ha da hia
      clear hla; subst hba
      by_cases hlta : ia < a.states.length
      · have e1a : ((ia : Int) < (a.states.length : Int)) := by omega
        have e2a : ((ia : Int) < (b.states.length : Int)) := by omega
        have hlua : ia < b.states.length := by omega
        obtain ⟨xa, hxa⟩ : ∃ yy, yy = a.states[ia] := ⟨_, rfl⟩
        obtain ⟨ya, hya⟩ : ∃ yy, yy = b.states[ia] := ⟨_, rfl⟩
        have e3a : (a.states.map PState.cells)[ia]? = some (PState.cells xa) := by simp [hlta, hxa]
        have e4a : (b.states.map PState.cells)[ia]? = some (PState.cells ya) := by simp [hlua, hya]
        have hma : xa ∈ a.states := by rw [hxa]; exact List.getElem_mem hlta
        have hna : ya ∈ b.states := by rw [hya]; exact List.getElem_mem hlua
        have hda := allEq_drop PState.same a.states b.states ia hlta hlua
        rw [← hxa, ← hya] at hda
        have hsa := sa.2.2 xa hma
        have hsb := sb.2.2 ya hna
        have hl2 := hsa.2.1
        have hl3 := hsa.2.2.2.1
        have k1 := rsameEqs_c xa.eqs ya.eqs hl2 .free (.inl rfl) hsa.2.2.1 hsb.2.2.1
        have hp : PState.same xa ya = (xa.name == ya.name && allEq PEq.same xa.eqs ya.eqs && allEq PWay.same xa.ways ya.ways) := rfl
        simp only [sims, core, pe, Nat.reduceAdd, Int.reduceBEq, Int.reduceBNe, Int.reduceLT, Int.reduceLE, fx_44, ty, dec_a1, dec_a0, dec_b0, dec_c0, dec_c1, e1a, e2a, e3a, e4a, k1 _]
        cases h5 : xa.name == ya.name
        · simp only [sims, core, pe, Nat.reduceAdd, Int.reduceBEq, Int.reduceBNe, Int.reduceLT, Int.reduceLE, fx_44, ty, dec_a1, dec_a0, dec_b0, dec_c0, dec_c1, bne, h5]
          exact .inr ⟨_, _, rfl, by simp, .inr ⟨by simp only [hda, hp, h5, Bool.false_and, Bool.and_false], rfl, At.of _ (by simp only [ats, Int.natCast_zero]) (by simp only [List.cons_append, List.append_assoc, List.nil_append]; rfl)⟩⟩
        simp only [sims, core, pe, Nat.reduceAdd, Int.reduceBEq, Int.reduceBNe, Int.reduceLT, Int.reduceLE, fx_44, ty, dec_a1, dec_a0, dec_b0, dec_c0, dec_c1, bne, h5, k1 _]
        cases h6 : allEq PEq.same xa.eqs ya.eqs
        · simp only [sims, core, pe, Nat.reduceAdd, Int.reduceBEq, Int.reduceBNe, Int.reduceLT, Int.reduceLE, fx_44, ty, dec_a1, dec_a0, dec_b0, dec_c0, dec_c1, h6]
          exact .inr ⟨_, _, rfl, by simp, .inr ⟨by simp only [hda, hp, h5, h6, Bool.false_and, Bool.and_false], rfl, At.of _ (by simp only [ats, Int.natCast_zero]) (by simp only [List.cons_append, List.append_assoc, List.nil_append]; rfl)⟩⟩
        by_cases hlenb : xa.ways.length = ya.ways.length
        rotate_left
        · have hnb := bne_len _ _ hlenb
          simp only [sims, core, pe, Nat.reduceAdd, Int.reduceBEq, Int.reduceBNe, Int.reduceLT, Int.reduceLE, fx_44, ty, dec_a1, dec_a0, dec_b0, dec_c0, dec_c1, h6, hnb]
          exact .inr ⟨_, _, rfl, by simp, .inr ⟨by simp only [hda, hp, h5, h6, allEq_len PWay.same xa.ways ya.ways hlenb, Bool.false_and, Bool.and_false], rfl, At.of _ (by simp only [ats, Int.natCast_zero]) (by simp only [List.cons_append, List.append_assoc, List.nil_append]; rfl)⟩⟩
        have hnb := beq_lenI _ _ hlenb
        simp only [sims, core, pe, Nat.reduceAdd, Int.reduceBEq, Int.reduceBNe, Int.reduceLT, Int.reduceLE, fx_44, ty, dec_a1, dec_a0, dec_b0, dec_c0, dec_c1, h6, hnb]
        generalize hbb : codeB PP cmp0 C lpC _ = fb; generalize hlb : lpC fb _ = rb
        obtain ⟨exb, sb, rfl, h2b⟩ := lpC_at (α := Nat) hlb [4, 65, 66, 67, 68, 69, 70, 71, 72, 73, 74, 75, 76, 77, 78, 79, 80, 81, 82, 83, 84, 85, 86, 87, 88, 89, 90, 91, 92, 93, 94, 95, 96, 97, 98, 99, 100] (fun i => [(8, .int .i64 i)]) (fun i => i ≤ xa.ways.length) (fun i => xa.ways.length - i) (fun i => allEq PWay.same (xa.ways.drop i) (ya.ways.drop i))
          (AllPostE 2 [4, 8, 65, 66, 67, 68, 69, 70, 71, 72, 73, 74, 75, 76, 77, 78, 79, 80, 81, 82, 83, 84, 85, 86, 87, 88, 89, 90, 91, 92, 93, 94, 95, 96, 97, 98, 99, 100] [8, 65, 66, 67, 68, 69, 70, 71, 72, 73, 74, 75, 76, 77, 78, 79, 80, 81, 82, 83, 84, 85, 86, 87, 88, 89, 90, 91, 92, 93, 94, 95, 96, 97, 98, 99, 100] 4) 0 (Nat.zero_le _) (At.of [] (by simp only [ats, Int.natCast_zero]) (by simp only [List.append_nil])) (by
            intro ib jb Hb db hib
            clear hlb; subst hbb
            by_cases hltb : ib < xa.ways.length
            · have e1b : ((ib : Int) < (xa.ways.length : Int)) := by omega
              have e2b : ((ib : Int) < (ya.ways.length : Int)) := by omega
              have hlub : ib < ya.ways.length := by omega
              obtain ⟨xb, hxb⟩ : ∃ yy, yy = xa.ways[ib] := ⟨_, rfl⟩
              obtain ⟨yb, hyb⟩ : ∃ yy, yy = ya.ways[ib] := ⟨_, rfl⟩
              have e3b : (xa.ways.map PWay.cells)[ib]? = some (PWay.cells xb) := by simp [hltb, hxb]
              have e4b : (ya.ways.map PWay.cells)[ib]? = some (PWay.cells yb) := by simp [hlub, hyb]
              have hmb : xb ∈ xa.ways := by rw [hxb]; exact List.getElem_mem hltb
              have hnb' : yb ∈ ya.ways := by rw [hyb]; exact List.getElem_mem hlub
              have hdb := allEq_drop PWay.same xa.ways ya.ways ib hltb hlub
              rw [← hxb, ← hyb] at hdb
              have hwa := hsa.2.2.2.2 xb hmb
              have hwb := hsb.2.2.2.2 yb hnb'
              have k2 := rsameExpr_c xb.cond yb.cond hwa.1 hwb.1
              have hpb : PWay.same xb yb = (xb.to == yb.to && xb.cond.same yb.cond) := rfl
              simp only [sims, core, pe, Nat.reduceAdd, Int.reduceBEq, Int.reduceBNe, Int.reduceLT, Int.reduceLE, fx_44, ty, dec_a1, dec_a0, dec_b0, dec_c0, dec_c1, e1b, e2b, e3b, e4b, k2 _]
              cases h7 : xb.to == yb.to
              · simp only [sims, core, pe, Nat.reduceAdd, Int.reduceBEq, Int.reduceBNe, Int.reduceLT, Int.reduceLE, fx_44, ty, dec_a1, dec_a0, dec_b0, dec_c0, dec_c1, bne, h7]
                exact .inr ⟨_, _, rfl, by simp, .inr ⟨by simp only [hdb, hpb, h7, Bool.false_and, Bool.and_false], rfl, At.of _ (by simp only [ats, Int.natCast_zero]) (by simp only [List.cons_append, List.append_assoc, List.nil_append]; rfl)⟩⟩
              simp only [sims, core, pe, Nat.reduceAdd, Int.reduceBEq, Int.reduceBNe, Int.reduceLT, Int.reduceLE, fx_44, ty, dec_a1, dec_a0, dec_b0, dec_c0, dec_c1, bne, h7, k2 _, e3b, e4b]
              cases h8 : xb.cond.same yb.cond
              · simp only [sims, core, pe, Nat.reduceAdd, Int.reduceBEq, Int.reduceBNe, Int.reduceLT, Int.reduceLE, fx_44, ty, dec_a1, dec_a0, dec_b0, dec_c0, dec_c1, h8]
                exact .inr ⟨_, _, rfl, by simp, .inr ⟨by simp only [hdb, hpb, h7, h8, Bool.false_and, Bool.and_false], rfl, At.of _ (by simp only [ats, Int.natCast_zero]) (by simp only [List.cons_append, List.append_assoc, List.nil_append]; rfl)⟩⟩
              · simp only [sims, core, pe, Nat.reduceAdd, Int.reduceBEq, Int.reduceBNe, Int.reduceLT, Int.reduceLE, fx_44, ty, dec_a1, dec_a0, dec_b0, dec_c0, dec_c1, h8, wrap_nat (show ib ≤ lenTop by omega)]
                exact .inl ⟨ib + 1, _, rfl, (by simp only []; omega), At.of _ (by simp only [ats, Int.natCast_zero]) (by simp only [List.cons_append, List.append_assoc, List.nil_append]; rfl), by simp only []; omega, by simp only [hdb, hpb, h7, h8, Bool.true_and, Bool.and_self]⟩
            · have e1b : ¬ ((ib : Int) < (xa.ways.length : Int)) := by omega
              simp only [sims, core, pe, Nat.reduceAdd, Int.reduceBEq, Int.reduceBNe, Int.reduceLT, Int.reduceLE, fx_44, ty, e1b]
              exact .inr ⟨_, _, rfl, by simp, .inl ⟨by simp only []; rw [List.drop_eq_nil_of_le (by omega), List.drop_eq_nil_of_le (by omega)]; rfl, rfl, At.of _ (by simp only [ats, Int.natCast_zero]) (by simp only [List.cons_append, List.append_assoc, List.nil_append]; rfl)⟩⟩)
        rw [List.drop_zero, List.drop_zero] at h2b
        rcases h2b with ⟨hrb, rfl, h2b⟩ | ⟨hrb, rfl, h2b⟩
        rotate_left
        · obtain ⟨jb', Hb', db', rfl⟩ := h2b.elim
          clear hlb
          simp only [sims, core, pe, Nat.reduceAdd, Int.reduceBEq, Int.reduceBNe, Int.reduceLT, Int.reduceLE, fx_44, ty, dec_a1, dec_a0, dec_b0, dec_c0, dec_c1]
          exact .inr ⟨_, _, rfl, by simp, .inr ⟨by simp only [hda, hp, h5, h6, hrb, Bool.false_and, Bool.and_false], rfl, At.of _ (by simp only [ats, Int.natCast_zero]) (by simp only [List.cons_append, List.append_assoc, List.nil_append]; rfl)⟩⟩
        obtain ⟨jb', Hb', db', rfl⟩ := h2b.elim
        clear hlb
        simp only [sims, core, pe, Nat.reduceAdd, Int.reduceBEq, Int.reduceBNe, Int.reduceLT, Int.reduceLE, fx_44, ty, dec_a1, dec_a0, dec_b0, dec_c0, dec_c1, wrap_nat (show ia ≤ lenTop by omega)]
        exact .inl ⟨ia + 1, _, rfl, (by simp only []; omega), At.of _ (by simp only [ats, Int.natCast_zero]) (by simp only [List.cons_append, List.append_assoc, List.nil_append]; rfl), by simp only []; omega, by simp only [hda, hp, h5, h6, hrb, Bool.true_and, Bool.and_self]⟩
      · have e1a : ¬ ((ia : Int) < (a.states.length : Int)) := by omega
        simp only [sims, core, pe, Nat.reduceAdd, Int.reduceBEq, Int.reduceBNe, Int.reduceLT, Int.reduceLE, fx_44, ty, e1a]
        exact .inr ⟨_, _, rfl, by simp, .inl ⟨by simp only []; rw [List.drop_eq_nil_of_le (by omega), List.drop_eq_nil_of_le (by omega)]; rfl, rfl, At.of _ (by simp only [ats, Int.natCast_zero]) (by simp only [List.cons_append, List.append_assoc, List.nil_append]; rfl)⟩⟩)
  rw [List.drop_zero, List.drop_zero] at h2a
  rcases h2a with ⟨hr1, rfl, h2a⟩ | ⟨hr1, rfl, h2a⟩
  · obtain ⟨j, H, d, rfl⟩ := h2a.elim
    clear hla
    simp only [sims, core, pe, Nat.reduceAdd, Int.reduceBEq, Int.reduceBNe, Int.reduceLT, Int.reduceLE, fx_44, ty, dec_a1, dec_a0, dec_b0, dec_c0, dec_c1, hr1]
  · obtain ⟨j, H, d, rfl⟩ := h2a.elim
    clear hla
    simp only [sims, core, pe, Nat.reduceAdd, Int.reduceBEq, Int.reduceBNe, Int.reduceLT, Int.reduceLE, fx_44, ty, dec_a1, dec_a0, dec_b0, dec_c0, dec_c1, hr1]
theorem rsame_c (a b : PProg) (sa : a.Small) (sb : b.Small) : Ret C 16 [.agg a.cells, .agg b.cells] (.bool (a.same b)) := by
  refine Ret.mk (by simp [refsL, refs, a.norefs, b.norefs]) rfl ?_
  have hl1 := sa.1
  have hl2 := sa.2.2.1
  have es : a.same b = (allEq PEnum.same a.enums b.enums && allEq PNode.same a.nodes b.nodes) := rfl
  rw [es]
  rw [C_fn rfl Go.Proofs.Tryz.func16 rfl (by kernel_rfl) (m := 134) rfl]; simp only [sims, core, pe, Nat.reduceAdd, Int.reduceBEq, Int.reduceBNe, Int.reduceLT, Int.reduceLE, Go.Proofs.Tryz.f16, fx_16, ty]
  by_cases hlen : a.enums.length = b.enums.length
  rotate_left
  · have hn := bne_len _ _ hlen
    simp only [sims, core, pe, Nat.reduceAdd, Int.reduceBEq, Int.reduceBNe, Int.reduceLT, Int.reduceLE, fx_16, ty, dec_a1, dec_a0, dec_b0, dec_c0, dec_c1, hn, allEq_len PEnum.same a.enums b.enums hlen]
  have hn := beq_lenI _ _ hlen
  simp only [sims, core, pe, Nat.reduceAdd, Int.reduceBEq, Int.reduceBNe, Int.reduceLT, Int.reduceLE, fx_16, ty, dec_a1, dec_a0, dec_b0, dec_c0, dec_c1, hn]
  by_cases hlen2 : a.nodes.length = b.nodes.length
  rotate_left
  · have hn := bne_len _ _ hlen2
    simp only [sims, core, pe, Nat.reduceAdd, Int.reduceBEq, Int.reduceBNe, Int.reduceLT, Int.reduceLE, fx_16, ty, dec_a1, dec_a0, dec_b0, dec_c0, dec_c1, hn, allEq_len PNode.same a.nodes b.nodes hlen2]
  have hn2 := beq_lenI _ _ hlen2
  simp only [sims, core, pe, Nat.reduceAdd, Int.reduceBEq, Int.reduceBNe, Int.reduceLT, Int.reduceLE, fx_16, ty, dec_a1, dec_a0, dec_b0, dec_c0, dec_c1, hn2]
  generalize hba : codeB PP cmp0 C lpC _ = fa; generalize hla : lpC fa _ = ra
  obtain ⟨exa, sa, rfl, h2a⟩ := lpC_at (α := Nat) hla [4, 26, 27, 28, 29, 30, 31, 32, 33, 34, 35, 36, 37, 38, 39, 40, 41, 42, 43, 44, 45, 46, 47, 48, 49, 50, 51, 52, 53, 54, 55, 56, 57, 58, 59, 60, 61] (fun i => [(5, .int .i64 i)]) (fun i => i ≤ a.enums.length) (fun i => a.enums.length - i) (fun i => allEq PEnum.same (a.enums.drop i) (b.enums.drop i))
    (AllPostE 0 [4, 5, 26, 27, 28, 29, 30, 31, 32, 33, 34, 35, 36, 37, 38, 39, 40, 41, 42, 43, 44, 45, 46, 47, 48, 49, 50, 51, 52, 53, 54, 55, 56, 57, 58, 59, 60, 61] [5, 26, 27, 28, 29, 30, 31, 32, 33, 34, 35, 36, 37, 38, 39, 40, 41, 42, 43, 44, 45, 46, 47, 48, 49, 50, 51, 52, 53, 54, 55, 56, 57, 58, 59, 60, 61] 4) 0 (Nat.zero_le _) (At.of [] (by simp only [ats, Int.natCast_zero]) (by simp only [List.append_nil])) (by
      intro ia ja Ha da hia
      clear hla; subst hba
      by_cases hlta : ia < a.enums.length
      · have e1a : ((ia : Int) < (a.enums.length : Int)) := by omega
        have e2a : ((ia : Int) < (b.enums.length : Int)) := by omega
        have hlua : ia < b.enums.length := by omega
        obtain ⟨xa, hxa⟩ : ∃ yy, yy = a.enums[ia] := ⟨_, rfl⟩
        obtain ⟨ya, hya⟩ : ∃ yy, yy = b.enums[ia] := ⟨_, rfl⟩
        have e3a : (a.enums.map PEnum.cells)[ia]? = some (PEnum.cells xa) := by simp [hlta, hxa]
        have e4a : (b.enums.map PEnum.cells)[ia]? = some (PEnum.cells ya) := by simp [hlua, hya]
        have hma : xa ∈ a.enums := by rw [hxa]; exact List.getElem_mem hlta
        have hna : ya ∈ b.enums := by rw [hya]; exact List.getElem_mem hlua
        have hda := allEq_drop PEnum.same a.enums b.enums ia hlta hlua
        rw [← hxa, ← hya] at hda
        have hsa := sa.2.1 xa hma
        have hsb := sb.2.1 ya hna
        have k1 := sameNames_c xa.cons ya.cons hsa.2.1
        have hp : PEnum.same xa ya = (xa.name == ya.name && xa.cons == ya.cons) := rfl
        simp only [sims, core, pe, Nat.reduceAdd, Int.reduceBEq, Int.reduceBNe, Int.reduceLT, Int.reduceLE, fx_16, ty, dec_a1, dec_a0, dec_b0, dec_c0, dec_c1, e1a, e2a, e3a, e4a, k1 _]
        cases h5 : xa.name == ya.name
        · simp only [sims, core, pe, Nat.reduceAdd, Int.reduceBEq, Int.reduceBNe, Int.reduceLT, Int.reduceLE, fx_16, ty, dec_a1, dec_a0, dec_b0, dec_c0, dec_c1, bne, h5]
          exact .inr ⟨_, _, rfl, by simp, .inr ⟨by simp only [hda, hp, h5, Bool.false_and, Bool.and_false], rfl, At.of _ (by simp only [ats, Int.natCast_zero]) (by simp only [List.cons_append, List.append_assoc, List.nil_append]; rfl)⟩⟩
        simp only [sims, core, pe, Nat.reduceAdd, Int.reduceBEq, Int.reduceBNe, Int.reduceLT, Int.reduceLE, fx_16, ty, dec_a1, dec_a0, dec_b0, dec_c0, dec_c1, bne, h5, k1 _, e3a, e4a]
        cases h6 : xa.cons == ya.cons
        · simp only [sims, core, pe, Nat.reduceAdd, Int.reduceBEq, Int.reduceBNe, Int.reduceLT, Int.reduceLE, fx_16, ty, dec_a1, dec_a0, dec_b0, dec_c0, dec_c1, h6]
          exact .inr ⟨_, _, rfl, by simp, .inr ⟨by simp only [hda, hp, h5, h6, Bool.false_and, Bool.and_false], rfl, At.of _ (by simp only [ats, Int.natCast_zero]) (by simp only [List.cons_append, List.append_assoc, List.nil_append]; rfl)⟩⟩
        · simp only [sims, core, pe, Nat.reduceAdd, Int.reduceBEq, Int.reduceBNe, Int.reduceLT, Int.reduceLE, fx_16, ty, dec_a1, dec_a0, dec_b0, dec_c0, dec_c1, h6, wrap_nat (show ia ≤ lenTop by omega)]
          exact .inl ⟨ia + 1, _, rfl, (by simp only []; omega), At.of _ (by simp only [ats, Int.natCast_zero]) (by simp only [List.cons_append, List.append_assoc, List.nil_append]; rfl), by simp only []; omega, by simp only [hda, hp, h5, h6, Bool.true_and, Bool.and_self]⟩
      · have e1a : ¬ ((ia : Int) < (a.enums.length : Int)) := by omega
        simp only [sims, core, pe, Nat.reduceAdd, Int.reduceBEq, Int.reduceBNe, Int.reduceLT, Int.reduceLE, fx_16, ty, e1a]
        exact .inr ⟨_, _, rfl, by simp, .inl ⟨by simp only []; rw [List.drop_eq_nil_of_le (by omega), List.drop_eq_nil_of_le (by omega)]; rfl, rfl, At.of _ (by simp only [ats, Int.natCast_zero]) (by simp only [List.cons_append, List.append_assoc, List.nil_append]; rfl)⟩⟩)
  rw [List.drop_zero, List.drop_zero] at h2a
  rcases h2a with ⟨hr1, rfl, h2a⟩ | ⟨hr1, rfl, h2a⟩
  rotate_left
  · obtain ⟨j, H, d, rfl⟩ := h2a.elim
    clear hla
    simp only [sims, core, pe, Nat.reduceAdd, Int.reduceBEq, Int.reduceBNe, Int.reduceLT, Int.reduceLE, fx_16, ty, dec_a1, dec_a0, dec_b0, dec_c0, dec_c1, hr1]
  obtain ⟨j, H, d, rfl⟩ := h2a.elim
  clear hla
  simp only [sims, core, pe, Nat.reduceAdd, Int.reduceBEq, Int.reduceBNe, Int.reduceLT, Int.reduceLE, fx_16, ty, dec_a1, dec_a0, dec_b0, dec_c0, dec_c1, hr1]
  generalize hbc : codeB PP cmp0 C lpC _ = fc; generalize hlc : lpC fc _ = rc
  obtain ⟨exc, sc, rfl, h2c⟩ := lpC_at (α := Nat) hlc [4, 7, 8, 9, 62, 63, 64, 65, 66, 67, 68, 69, 70, 71, 72, 73, 74, 75, 76, 77, 78, 79, 80, 81, 82, 83, 84, 85, 86, 87, 88, 89, 90, 91, 92, 93, 94, 95, 96, 97, 98, 99, 100, 101, 102, 103, 104, 105, 106, 107, 108, 109, 110, 111, 112, 113, 114, 115, 116, 117, 118, 119, 120, 121, 122, 123, 124, 125, 126, 127, 128, 129, 130, 131, 132, 133, 134, 135] (fun i => [(6, .int .i64 i)]) (fun i => i ≤ a.nodes.length) (fun i => a.nodes.length - i) (fun i => allEq PNode.same (a.nodes.drop i) (b.nodes.drop i))
    (AllPostE 2 [4, 6, 7, 8, 9, 62, 63, 64, 65, 66, 67, 68, 69, 70, 71, 72, 73, 74, 75, 76, 77, 78, 79, 80, 81, 82, 83, 84, 85, 86, 87, 88, 89, 90, 91, 92, 93, 94, 95, 96, 97, 98, 99, 100, 101, 102, 103, 104, 105, 106, 107, 108, 109, 110, 111, 112, 113, 114, 115, 116, 117, 118, 119, 120, 121, 122, 123, 124, 125, 126, 127, 128, 129, 130, 131, 132, 133, 134, 135] [6, 7, 8, 9, 62, 63, 64, 65, 66, 67, 68, 69, 70, 71, 72, 73, 74, 75, 76, 77, 78, 79, 80, 81, 82, 83, 84, 85, 86, 87, 88, 89, 90, 91, 92, 93, 94, 95, 96, 97, 98, 99, 100, 101, 102, 103, 104, 105, 106, 107, 108, 109, 110, 111, 112, 113, 114, 115, 116, 117, 118, 119, 120, 121, 122, 123, 124, 125, 126, 127, 128, 129, 130, 131, 132, 133, 134, 135] 4) 0 (Nat.zero_le _) (At.of [] (by simp only [ats, Int.natCast_zero]) (by simp only [List.append_nil])) (by
      intro ic jc Hc dc hic
      clear hlc; subst hbc
      by_cases hltc : ic < a.nodes.length
      · have e1c : ((ic : Int) < (a.nodes.length : Int)) := by omega
        have e2c : ((ic : Int) < (b.nodes.length : Int)) := by omega
        have hluc : ic < b.nodes.length := by omega
        obtain ⟨xc, hxc⟩ : ∃ yy, yy = a.nodes[ic] := ⟨_, rfl⟩
        obtain ⟨yc, hyc⟩ : ∃ yy, yy = b.nodes[ic] := ⟨_, rfl⟩
        have e3c : (a.nodes.map PNode.cells)[ic]? = some (PNode.cells xc) := by simp [hltc, hxc]
        have e4c : (b.nodes.map PNode.cells)[ic]? = some (PNode.cells yc) := by simp [hluc, hyc]
        have hmc : xc ∈ a.nodes := by rw [hxc]; exact List.getElem_mem hltc
        have hnc : yc ∈ b.nodes := by rw [hyc]; exact List.getElem_mem hluc
        have hdc := allEq_drop PNode.same a.nodes b.nodes ic hltc hluc
        rw [← hxc, ← hyc] at hdc
        have hsc := sa.2.2.2 xc hmc
        have hsd := sb.2.2.2 yc hnc
        have hl3 := hsc.2.2.2.2.1
        have k1 := sameNames_c xc.funs yc.funs hsc.2.1.1
        have k2 := sameNames_c xc.ins yc.ins hsc.2.2.1.1
        have k3 := sameNames_c xc.outs yc.outs hsc.2.2.2.1.1
        have hp : PNode.same xc yc = (xc.name == yc.name && xc.funs == yc.funs && xc.ins == yc.ins && xc.outs == yc.outs && allEq PItem.same xc.items yc.items) := rfl
        simp only [sims, core, pe, Nat.reduceAdd, Int.reduceBEq, Int.reduceBNe, Int.reduceLT, Int.reduceLE, fx_16, ty, dec_a1, dec_a0, dec_b0, dec_c0, dec_c1, e1c, e2c, e3c, e4c, k1 _, k2 _, k3 _]
        cases h5 : xc.name == yc.name
        · simp only [sims, core, pe, Nat.reduceAdd, Int.reduceBEq, Int.reduceBNe, Int.reduceLT, Int.reduceLE, fx_16, ty, dec_a1, dec_a0, dec_b0, dec_c0, dec_c1, bne, h5]
          exact .inr ⟨_, _, rfl, by simp, .inr ⟨by simp only [hdc, hp, h5, Bool.false_and, Bool.and_false], rfl, At.of _ (by simp only [ats, Int.natCast_zero]) (by simp only [List.cons_append, List.append_assoc, List.nil_append]; rfl)⟩⟩
        simp only [sims, core, pe, Nat.reduceAdd, Int.reduceBEq, Int.reduceBNe, Int.reduceLT, Int.reduceLE, fx_16, ty, dec_a1, dec_a0, dec_b0, dec_c0, dec_c1, bne, h5, k1 _]
        cases h6 : xc.funs == yc.funs
        · simp only [sims, core, pe, Nat.reduceAdd, Int.reduceBEq, Int.reduceBNe, Int.reduceLT, Int.reduceLE, fx_16, ty, dec_a1, dec_a0, dec_b0, dec_c0, dec_c1, h6]
          exact .inr ⟨_, _, rfl, by simp, .inr ⟨by simp only [hdc, hp, h5, h6, Bool.false_and, Bool.and_false], rfl, At.of _ (by simp only [ats, Int.natCast_zero]) (by simp only [List.cons_append, List.append_assoc, List.nil_append]; rfl)⟩⟩
        simp only [sims, core, pe, Nat.reduceAdd, Int.reduceBEq, Int.reduceBNe, Int.reduceLT, Int.reduceLE, fx_16, ty, dec_a1, dec_a0, dec_b0, dec_c0, dec_c1, h6, k2 _]
        cases h7 : xc.ins == yc.ins
        · simp only [sims, core, pe, Nat.reduceAdd, Int.reduceBEq, Int.reduceBNe, Int.reduceLT, Int.reduceLE, fx_16, ty, dec_a1, dec_a0, dec_b0, dec_c0, dec_c1, h7]
          exact .inr ⟨_, _, rfl, by simp, .inr ⟨by simp only [hdc, hp, h5, h6, h7, Bool.false_and, Bool.and_false], rfl, At.of _ (by simp only [ats, Int.natCast_zero]) (by simp only [List.cons_append, List.append_assoc, List.nil_append]; rfl)⟩⟩
        simp only [sims, core, pe, Nat.reduceAdd, Int.reduceBEq, Int.reduceBNe, Int.reduceLT, Int.reduceLE, fx_16, ty, dec_a1, dec_a0, dec_b0, dec_c0, dec_c1, h7, k3 _]
        cases h8 : xc.outs == yc.outs
        · simp only [sims, core, pe, Nat.reduceAdd, Int.reduceBEq, Int.reduceBNe, Int.reduceLT, Int.reduceLE, fx_16, ty, dec_a1, dec_a0, dec_b0, dec_c0, dec_c1, h8]
          exact .inr ⟨_, _, rfl, by simp, .inr ⟨by simp only [hdc, hp, h5, h6, h7, h8, Bool.false_and, Bool.and_false], rfl, At.of _ (by simp only [ats, Int.natCast_zero]) (by simp only [List.cons_append, List.append_assoc, List.nil_append]; rfl)⟩⟩
        by_cases hlend : xc.items.length = yc.items.length
        rotate_left
        · have hnd := bne_len _ _ hlend
          simp only [sims, core, pe, Nat.reduceAdd, Int.reduceBEq, Int.reduceBNe, Int.reduceLT, Int.reduceLE, fx_16, ty, dec_a1, dec_a0, dec_b0, dec_c0, dec_c1, h8, hnd]
          exact .inr ⟨_, _, rfl, by simp, .inr ⟨by simp only [hdc, hp, h5, h6, h7, h8, allEq_len PItem.same xc.items yc.items hlend, Bool.false_and, Bool.and_false], rfl, At.of _ (by simp only [ats, Int.natCast_zero]) (by simp only [List.cons_append, List.append_assoc, List.nil_append]; rfl)⟩⟩
        have hnd := beq_lenI _ _ hlend
        simp only [sims, core, pe, Nat.reduceAdd, Int.reduceBEq, Int.reduceBNe, Int.reduceLT, Int.reduceLE, fx_16, ty, dec_a1, dec_a0, dec_b0, dec_c0, dec_c1, h8, hnd]
        generalize hbd : codeB PP cmp0 C lpC _ = fd; generalize hld : lpC fd _ = rd
        obtain ⟨exd, sd, rfl, h2d⟩ := lpC_at (α := Nat) hld [4, 117, 118, 119, 120, 121, 122, 123, 124, 125, 126, 127, 128, 129, 130, 131, 132, 133, 134, 135] (fun i => [(9, .int .i64 i)]) (fun i => i ≤ xc.items.length) (fun i => xc.items.length - i) (fun i => allEq PItem.same (xc.items.drop i) (yc.items.drop i))
          (AllPostE 4 [4, 9, 117, 118, 119, 120, 121, 122, 123, 124, 125, 126, 127, 128, 129, 130, 131, 132, 133, 134, 135] [9, 117, 118, 119, 120, 121, 122, 123, 124, 125, 126, 127, 128, 129, 130, 131, 132, 133, 134, 135] 4) 0 (Nat.zero_le _) (At.of [] (by simp only [ats, Int.natCast_zero]) (by simp only [List.append_nil])) (by
            intro id jd Hd dd hid
            clear hld; subst hbd
            by_cases hltd : id < xc.items.length
            · have e1d : ((id : Int) < (xc.items.length : Int)) := by omega
              have e2d : ((id : Int) < (yc.items.length : Int)) := by omega
              have hlud : id < yc.items.length := by omega
              obtain ⟨xd, hxd⟩ : ∃ yy, yy = xc.items[id] := ⟨_, rfl⟩
              obtain ⟨yd, hyd⟩ : ∃ yy, yy = yc.items[id] := ⟨_, rfl⟩
              have e3d : (xc.items.map PItem.cells)[id]? = some (PItem.cells xd) := by simp [hltd, hxd]
              have e4d : (yc.items.map PItem.cells)[id]? = some (PItem.cells yd) := by simp [hlud, hyd]
              have hmd : xd ∈ xc.items := by rw [hxd]; exact List.getElem_mem hltd
              have hnd' : yd ∈ yc.items := by rw [hyd]; exact List.getElem_mem hlud
              have hdd := allEq_drop PItem.same xc.items yc.items id hltd hlud
              rw [← hxd, ← hyd] at hdd
              have k4 := rsameItem_c xd yd (hsc.2.2.2.2.2 xd hmd) (hsd.2.2.2.2.2 yd hnd')
              simp only [sims, core, pe, Nat.reduceAdd, Int.reduceBEq, Int.reduceBNe, Int.reduceLT, Int.reduceLE, fx_16, ty, dec_a1, dec_a0, dec_b0, dec_c0, dec_c1, e1d, e2d, e3d, e4d, k4 _]
              cases h9 : xd.same yd
              · simp only [sims, core, pe, Nat.reduceAdd, Int.reduceBEq, Int.reduceBNe, Int.reduceLT, Int.reduceLE, fx_16, ty, dec_a1, dec_a0, dec_b0, dec_c0, dec_c1, h9]
                exact .inr ⟨_, _, rfl, by simp, .inr ⟨by simp only [hdd, h9, Bool.false_and, Bool.and_false], rfl, At.of _ (by simp only [ats, Int.natCast_zero]) (by simp only [List.cons_append, List.append_assoc, List.nil_append]; rfl)⟩⟩
              · simp only [sims, core, pe, Nat.reduceAdd, Int.reduceBEq, Int.reduceBNe, Int.reduceLT, Int.reduceLE, fx_16, ty, dec_a1, dec_a0, dec_b0, dec_c0, dec_c1, h9, wrap_nat (show id ≤ lenTop by omega)]
                exact .inl ⟨id + 1, _, rfl, (by simp only []; omega), At.of _ (by simp only [ats, Int.natCast_zero]) (by simp only [List.cons_append, List.append_assoc, List.nil_append]; rfl), by simp only []; omega, by simp only [hdd, h9, Bool.true_and, Bool.and_self]⟩
            · have e1d : ¬ ((id : Int) < (xc.items.length : Int)) := by omega
              simp only [sims, core, pe, Nat.reduceAdd, Int.reduceBEq, Int.reduceBNe, Int.reduceLT, Int.reduceLE, fx_16, ty, e1d]
              exact .inr ⟨_, _, rfl, by simp, .inl ⟨by simp only []; rw [List.drop_eq_nil_of_le (by omega), List.drop_eq_nil_of_le (by omega)]; rfl, rfl, At.of _ (by simp only [ats, Int.natCast_zero]) (by simp only [List.cons_append, List.append_assoc, List.nil_append]; rfl)⟩⟩)
        rw [List.drop_zero, List.drop_zero] at h2d
        rcases h2d with ⟨hrd, rfl, h2d⟩ | ⟨hrd, rfl, h2d⟩
        rotate_left
        · obtain ⟨jd', Hd', dd', rfl⟩ := h2d.elim
          clear hld
          simp only [sims, core, pe, Nat.reduceAdd, Int.reduceBEq, Int.reduceBNe, Int.reduceLT, Int.reduceLE, fx_16, ty, dec_a1, dec_a0, dec_b0, dec_c0, dec_c1]
          exact .inr ⟨_, _, rfl, by simp, .inr ⟨by simp only [hdc, hp, h5, h6, h7, h8, hrd, Bool.false_and, Bool.and_false], rfl, At.of _ (by simp only [ats, Int.natCast_zero]) (by simp only [List.cons_append, List.append_assoc, List.nil_append]; rfl)⟩⟩
        obtain ⟨jd', Hd', dd', rfl⟩ := h2d.elim
        clear hld
        simp only [sims, core, pe, Nat.reduceAdd, Int.reduceBEq, Int.reduceBNe, Int.reduceLT, Int.reduceLE, fx_16, ty, dec_a1, dec_a0, dec_b0, dec_c0, dec_c1, wrap_nat (show ic ≤ lenTop by omega)]
        exact .inl ⟨ic + 1, _, rfl, (by simp only []; omega), At.of _ (by simp only [ats, Int.natCast_zero]) (by simp only [List.cons_append, List.append_assoc, List.nil_append]; rfl), by simp only []; omega, by simp only [hdc, hp, h5, h6, h7, h8, hrd, Bool.true_and, Bool.and_self]⟩
      · have e1c : ¬ ((ic : Int) < (a.nodes.length : Int)) := by omega
        simp only [sims, core, pe, Nat.reduceAdd, Int.reduceBEq, Int.reduceBNe, Int.reduceLT, Int.reduceLE, fx_16, ty, e1c]
        exact .inr ⟨_, _, rfl, by simp, .inl ⟨by simp only []; rw [List.drop_eq_nil_of_le (by omega), List.drop_eq_nil_of_le (by omega)]; rfl, rfl, At.of _ (by simp only [ats, Int.natCast_zero]) (by simp only [List.cons_append, List.append_assoc, List.nil_append]; rfl)⟩⟩)
  rw [List.drop_zero, List.drop_zero] at h2c
  rcases h2c with ⟨hr2, rfl, h2c⟩ | ⟨hr2, rfl, h2c⟩
  · obtain ⟨j, H, d, rfl⟩ := h2c.elim
    clear hlc
    simp only [sims, core, pe, Nat.reduceAdd, Int.reduceBEq, Int.reduceBNe, Int.reduceLT, Int.reduceLE, fx_16, ty, dec_a1, dec_a0, dec_b0, dec_c0, dec_c1, hr2]
  · obtain ⟨j, H, d, rfl⟩ := h2c.elim
    clear hlc
    simp only [sims, core, pe, Nat.reduceAdd, Int.reduceBEq, Int.reduceBNe, Int.reduceLT, Int.reduceLE, fx_16, ty, dec_a1, dec_a0, dec_b0, dec_c0, dec_c1, hr2]
end Go.Ab
