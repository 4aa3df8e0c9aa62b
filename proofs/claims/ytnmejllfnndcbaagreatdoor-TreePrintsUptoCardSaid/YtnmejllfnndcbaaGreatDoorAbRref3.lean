/- The reference: which programs may be, but for their bounds. -/
import Derived.Test.YtnmejllfnndcbaaGreatDoorAbRref2
set_option linter.unusedSimpArgs false
set_option linter.unusedVariables false
namespace Go.Ab
open Go Go.Ab.Tab
set_option maxRecDepth 100000
set_option maxHeartbeats 4000000
set_option linter.unusedSimpArgs false
theorem gt0_dec (n : Nat) : decide ((0 : Int) < (n : Int)) = !((n : Int) == 0) := by
  cases n with
  | zero => rfl
  | succ n =>
    have h1 : decide ((0 : Int) < ((n + 1 : Nat) : Int)) = true := decide_eq_true (by omega)
    have h2 : (((n + 1 : Nat) : Int) == 0) = false := beq_false_of_ne (by omega)
    rw [h1, h2]; rfl
theorem le8_dec (n : Nat) : decide ((n : Int) ≤ 8) = !decide ((8 : Int) < (n : Int)) := (ndec_lt _ _).symm
theorem any_all {α : Type} (l : List α) (p : α → Bool) : (!l.any fun x => !p x) = l.all p := by
  rw [List.any_eq_not_all_not]; simp only [Bool.not_not]
theorem ritem_c (made : Bool) (x : PItem) (hs : x.Small) : Ret C 64 [.agg x.cells, .bool made] (.bool (itemB made x)) := by
  refine Ret.mk (by simp [refsL, refs, x.norefs]) rfl ?_
  have e1 := req_c made x.eq hs.1
  have hl0 := hs.2.1
  have e2 : Ret C 24 [.agg x.eq.e.cells, .agg [.int .i64 0, .str [], .int .i64 0, .slice [] .free, .slice [] .free]] (.bool (x.eq.e.same zeroE)) := rsameExpr_c x.eq.e zeroE hs.1.2 (.mk _ _ _ _ _ (Nat.zero_le _) ⟨Nat.zero_le _, fun _ h => by cases h⟩ (Nat.zero_le _) (fun _ h => by cases h))
  have cc := fun (s : PState) hx => rcon_c made s.name (hs.2.2 s hx).1
  unfold itemB
  rw [le8_dec, any_all]
  rw [C_fn rfl Go.Proofs.Tryz.func64 rfl (by kernel_rfl) (m := 105) rfl]; simp only [sims, core, pe, Nat.reduceAdd, Int.reduceBEq, Int.reduceBNe, Int.reduceLT, Int.reduceLE, Go.Proofs.Tryz.f64, fx_64, ty]
  cases h1 : ((x.states.length : Int) == 0)
  rotate_left
  · simp only [sims, core, pe, Nat.reduceAdd, Int.reduceBEq, Int.reduceBNe, Int.reduceLT, Int.reduceLE, fx_64, ty, h1, e1 _]
  simp only [sims, core, pe, Nat.reduceAdd, Int.reduceBEq, Int.reduceBNe, Int.reduceLT, Int.reduceLE, fx_64, ty, h1, gt0_dec, PItem.get_names, PItem.sub_e]
  cases h2 : ((x.eq.names.length : Int) == 0)
  · simp only [sims, core, pe, Nat.reduceAdd, Int.reduceBEq, Int.reduceBNe, Int.reduceLT, Int.reduceLE, fx_64, ty, h2]
  simp only [sims, core, pe, Nat.reduceAdd, Int.reduceBEq, Int.reduceBNe, Int.reduceLT, Int.reduceLE, fx_64, ty, h2, PItem.get_names, PItem.sub_e, e2 _]
  cases h3 : x.eq.e.same zeroE
  · simp only [sims, core, pe, Nat.reduceAdd, Int.reduceBEq, Int.reduceBNe, Int.reduceLT, Int.reduceLE, fx_64, ty, h3]
  simp only [sims, core, pe, Nat.reduceAdd, Int.reduceBEq, Int.reduceBNe, Int.reduceLT, Int.reduceLE, fx_64, ty, h3]
  cases h4 : decide ((8 : Int) < (x.states.length : Int))
  rotate_left
  · simp only [sims, core, pe, Nat.reduceAdd, Int.reduceBEq, Int.reduceBNe, Int.reduceLT, Int.reduceLE, fx_64, ty, h4]
  simp only [sims, core, pe, Nat.reduceAdd, Int.reduceBEq, Int.reduceBNe, Int.reduceLT, Int.reduceLE, fx_64, ty, h4]
  generalize hba : codeB PP cmp0 C lpC _ = fa; generalize hla : lpC fa _ = ra
  obtain ⟨exa, sa, rfl, h2a⟩ := lpC_at (α := Nat) hla [4, 6, 7, 8, 36, 37, 38, 39, 40, 41, 42, 43, 44, 45, 46, 47, 48, 49, 50, 51, 52, 53, 54, 55, 56, 57, 58, 59, 60, 61, 62, 63, 64, 65, 66, 67, 68, 69, 70, 71, 72, 73, 74, 75, 76, 77, 78, 79, 80, 81, 82, 83, 84, 85, 86, 87, 88, 89, 90, 91, 92, 93, 94, 95, 96, 97, 98, 99, 100, 101, 102, 103, 104, 105, 106] (fun i => [(5, .int .i64 i)]) (fun i => i ≤ x.states.length) (fun i => x.states.length - i) (fun i => (x.states.drop i).all fun x => stateB made x)
    (AllPostE 0 [4, 5, 6, 7, 8, 36, 37, 38, 39, 40, 41, 42, 43, 44, 45, 46, 47, 48, 49, 50, 51, 52, 53, 54, 55, 56, 57, 58, 59, 60, 61, 62, 63, 64, 65, 66, 67, 68, 69, 70, 71, 72, 73, 74, 75, 76, 77, 78, 79, 80, 81, 82, 83, 84, 85, 86, 87, 88, 89, 90, 91, 92, 93, 94, 95, 96, 97, 98, 99, 100, 101, 102, 103, 104, 105, 106] [5, 6, 7, 8, 36, 37, 38, 39, 40, 41, 42, 43, 44, 45, 46, 47, 48, 49, 50, 51, 52, 53, 54, 55, 56, 57, 58, 59, 60, 61, 62, 63, 64, 65, 66, 67, 68, 69, 70, 71, 72, 73, 74, 75, 76, 77, 78, 79, 80, 81, 82, 83, 84, 85, 86, 87, 88, 89, 90, 91, 92, 93, 94, 95, 96, 97, 98, 99, 100, 101, 102, 103, 104, 105, 106] 4) 0 (Nat.zero_le _) (At.of [] (by simp only [ats, Int.natCast_zero]) (by simp only [List.append_nil])) (by
      intro ia ja Ha da hia
      clear hla; subst hba
      by_cases hlta : ia < x.states.length
      · have e1a : ((ia : Int) < (x.states.length : Int)) := by omega
        obtain ⟨xa, hxa⟩ : ∃ yy, yy = x.states[ia] := ⟨_, rfl⟩
        have e3a : (x.states.map PState.cells)[ia]? = some (PState.cells xa) := by simp [hlta, hxa]
        have hma : xa ∈ x.states := by rw [hxa]; exact List.getElem_mem hlta
        have hsa := hs.2.2 xa hma
        have hl1 := hsa.2.1
        have hl2 := hsa.2.2.2.1
        have c1 := cc xa hma
        simp only [sims, core, pe, Nat.reduceAdd, Int.reduceBEq, Int.reduceBNe, Int.reduceLT, Int.reduceLE, fx_64, ty, e1a, e3a, c1 _]
        cases h5 : conB made xa.name
        · simp only [sims, core, pe, Nat.reduceAdd, Int.reduceBEq, Int.reduceBNe, Int.reduceLT, Int.reduceLE, fx_64, ty, h5]
          exact .inr ⟨_, _, rfl, by simp, .inr ⟨by simp only [List.drop_eq_getElem_cons hlta, List.all_cons, ← hxa, stateB, h5, Bool.false_and, Bool.and_false], rfl, At.of _ (by simp only [ats, Int.natCast_zero]) (by simp only [List.cons_append, List.append_assoc, List.nil_append]; rfl)⟩⟩
        simp only [sims, core, pe, Nat.reduceAdd, Int.reduceBEq, Int.reduceBNe, Int.reduceLT, Int.reduceLE, fx_64, ty, h5]
        cases h6 : decide (24 < (xa.eqs.length : Int))
        rotate_left
        · simp only [sims, core, pe, Nat.reduceAdd, Int.reduceBEq, Int.reduceBNe, Int.reduceLT, Int.reduceLE, fx_64, ty, h6]
          exact .inr ⟨_, _, rfl, by simp, .inr ⟨by simp only [List.drop_eq_getElem_cons hlta, List.all_cons, ← hxa, stateB, h5, h6, Bool.not_true, Bool.not_false, Bool.false_and, Bool.and_false], rfl, At.of _ (by simp only [ats, Int.natCast_zero]) (by simp only [List.cons_append, List.append_assoc, List.nil_append]; rfl)⟩⟩
        simp only [sims, core, pe, Nat.reduceAdd, Int.reduceBEq, Int.reduceBNe, Int.reduceLT, Int.reduceLE, fx_64, ty, h6]
        cases h7 : decide (4 < (xa.ways.length : Int))
        rotate_left
        · simp only [sims, core, pe, Nat.reduceAdd, Int.reduceBEq, Int.reduceBNe, Int.reduceLT, Int.reduceLE, fx_64, ty, h7]
          exact .inr ⟨_, _, rfl, by simp, .inr ⟨by simp only [List.drop_eq_getElem_cons hlta, List.all_cons, ← hxa, stateB, h5, h6, h7, Bool.not_true, Bool.not_false, Bool.false_and, Bool.and_false], rfl, At.of _ (by simp only [ats, Int.natCast_zero]) (by simp only [List.cons_append, List.append_assoc, List.nil_append]; rfl)⟩⟩
        simp only [sims, core, pe, Nat.reduceAdd, Int.reduceBEq, Int.reduceBNe, Int.reduceLT, Int.reduceLE, fx_64, ty, h7]
        generalize hbb : codeB PP cmp0 C lpC _ = fb; generalize hlb : lpC fb _ = rb
        obtain ⟨exb, sb, rfl, h2b⟩ := lpC_at (α := Nat) hlb [4, 65, 66, 67, 68, 69, 70, 71, 72, 73, 74, 75, 76, 77, 78, 79] (fun i => [(7, .int .i64 i)]) (fun i => i ≤ xa.eqs.length) (fun i => xa.eqs.length - i) (fun i => (xa.eqs.drop i).all fun x => eqB made x)
          (AllPostE 2 [4, 7, 65, 66, 67, 68, 69, 70, 71, 72, 73, 74, 75, 76, 77, 78, 79] [7, 65, 66, 67, 68, 69, 70, 71, 72, 73, 74, 75, 76, 77, 78, 79] 4) 0 (Nat.zero_le _) (At.of [] (by simp only [ats, Int.natCast_zero]) (by simp only [List.append_nil])) (by
            intro ib jb Hb db hib
            clear hlb; subst hbb
            by_cases hltb : ib < xa.eqs.length
            · have e1b : ((ib : Int) < (xa.eqs.length : Int)) := by omega
              obtain ⟨xb, hxb⟩ : ∃ yy, yy = xa.eqs[ib] := ⟨_, rfl⟩
              have e3b : (xa.eqs.map PEq.cells)[ib]? = some (PEq.cells xb) := by simp [hltb, hxb]
              have hmb : xb ∈ xa.eqs := by rw [hxb]; exact List.getElem_mem hltb
              have cb := req_c made xb (hsa.2.2.1 xb hmb)
              simp only [sims, core, pe, Nat.reduceAdd, Int.reduceBEq, Int.reduceBNe, Int.reduceLT, Int.reduceLE, fx_64, ty, e1b, e3b, cb _]
              cases hcb0 : eqB made xb
              · simp only [sims, core, pe, Nat.reduceAdd, Int.reduceBEq, Int.reduceBNe, Int.reduceLT, Int.reduceLE, fx_64, ty, e1b, e3b, cb _, hcb0]
                exact .inr ⟨_, _, rfl, by simp, .inr ⟨by simp only [List.drop_eq_getElem_cons hltb, List.all_cons, ← hxb, hcb0, Bool.false_and, Bool.and_false], rfl, At.of _ (by simp only [ats, Int.natCast_zero]) (by simp only [List.cons_append, List.append_assoc, List.nil_append]; rfl)⟩⟩
              · simp only [sims, core, pe, Nat.reduceAdd, Int.reduceBEq, Int.reduceBNe, Int.reduceLT, Int.reduceLE, fx_64, ty, e1b, e3b, cb _, hcb0, wrap_nat (show ib ≤ lenTop by omega)]
                exact .inl ⟨ib + 1, _, rfl, hltb, At.of _ (by simp only [ats, Int.natCast_zero]) (by simp only [List.cons_append, List.append_assoc, List.nil_append]; rfl), by simp only []; omega, by simp only [List.drop_eq_getElem_cons hltb, List.all_cons, ← hxb, hcb0, Bool.true_and, Bool.and_self]⟩
            · have e1b : ¬ ((ib : Int) < (xa.eqs.length : Int)) := by omega
              simp only [sims, core, pe, Nat.reduceAdd, Int.reduceBEq, Int.reduceBNe, Int.reduceLT, Int.reduceLE, fx_64, ty, e1b]
              exact .inr ⟨_, _, rfl, by simp, .inl ⟨by simp only []; rw [List.drop_eq_nil_of_le (by omega)]; rfl, rfl, At.of _ (by simp only [ats, Int.natCast_zero]) (by simp only [List.cons_append, List.append_assoc, List.nil_append]; rfl)⟩⟩)
        rw [List.drop_zero] at h2b
        rcases h2b with ⟨hrb, rfl, h2b⟩ | ⟨hrb, rfl, h2b⟩
        rotate_left
        · obtain ⟨jb', Hb', db', rfl⟩ := h2b.elim
          clear hlb
          simp only [sims, core, pe, Nat.reduceAdd, Int.reduceBEq, Int.reduceBNe, Int.reduceLT, Int.reduceLE, fx_64, ty]
          exact .inr ⟨_, _, rfl, by simp, .inr ⟨by simp only [List.drop_eq_getElem_cons hlta, List.all_cons, ← hxa, stateB, h5, h6, h7, (show (xa.eqs.all (eqB made)) = false from hrb), Bool.not_false, Bool.false_and, Bool.and_false], rfl, At.of _ (by simp only [ats, Int.natCast_zero]) (by simp only [List.cons_append, List.append_assoc, List.nil_append]; rfl)⟩⟩
        obtain ⟨jb', Hb', db', rfl⟩ := h2b.elim
        clear hlb
        simp only [sims, core, pe, Nat.reduceAdd, Int.reduceBEq, Int.reduceBNe, Int.reduceLT, Int.reduceLE, fx_64, ty]
        generalize hbc : codeB PP cmp0 C lpC _ = fc; generalize hlc : lpC fc _ = rc
        obtain ⟨exc, sc, rfl, h2c⟩ := lpC_at (α := Nat) hlc [4, 80, 81, 82, 83, 84, 85, 86, 87, 88, 89, 90, 91, 92, 93, 94, 95, 96, 97, 98, 99, 100, 101, 102, 103, 104, 105, 106] (fun i => [(8, .int .i64 i)]) (fun i => i ≤ xa.ways.length) (fun i => xa.ways.length - i) (fun i => (xa.ways.drop i).all fun x => conB made x.to && exprB made x.cond)
          (AllPostE 4 [4, 8, 80, 81, 82, 83, 84, 85, 86, 87, 88, 89, 90, 91, 92, 93, 94, 95, 96, 97, 98, 99, 100, 101, 102, 103, 104, 105, 106] [8, 80, 81, 82, 83, 84, 85, 86, 87, 88, 89, 90, 91, 92, 93, 94, 95, 96, 97, 98, 99, 100, 101, 102, 103, 104, 105, 106] 4) 0 (Nat.zero_le _) (At.of [] (by simp only [ats, Int.natCast_zero]) (by simp only [List.append_nil])) (by
            intro ic jc Hc dc hic
            clear hlc; subst hbc
            by_cases hltc : ic < xa.ways.length
            · have e1c : ((ic : Int) < (xa.ways.length : Int)) := by omega
              obtain ⟨xc, hxc⟩ : ∃ yy, yy = xa.ways[ic] := ⟨_, rfl⟩
              have e3c : (xa.ways.map PWay.cells)[ic]? = some (PWay.cells xc) := by simp [hltc, hxc]
              have hmc : xc ∈ xa.ways := by rw [hxc]; exact List.getElem_mem hltc
              have cc := rcon_c made xc.to (hsa.2.2.2.2 xc hmc).2
              have kc := rexpr_c made xc.cond (hsa.2.2.2.2 xc hmc).1
              simp only [sims, core, pe, Nat.reduceAdd, Int.reduceBEq, Int.reduceBNe, Int.reduceLT, Int.reduceLE, fx_64, ty, e1c, e3c, cc _, kc _]
              cases hcc0 : conB made xc.to
              · simp only [sims, core, pe, Nat.reduceAdd, Int.reduceBEq, Int.reduceBNe, Int.reduceLT, Int.reduceLE, fx_64, ty, e1c, e3c, cc _, kc _, hcc0]
                exact .inr ⟨_, _, rfl, by simp, .inr ⟨by simp only [List.drop_eq_getElem_cons hltc, List.all_cons, ← hxc, hcc0, Bool.false_and, Bool.and_false], rfl, At.of _ (by simp only [ats, Int.natCast_zero]) (by simp only [List.cons_append, List.append_assoc, List.nil_append]; rfl)⟩⟩
              cases hcc1 : exprB made xc.cond
              · simp only [sims, core, pe, Nat.reduceAdd, Int.reduceBEq, Int.reduceBNe, Int.reduceLT, Int.reduceLE, fx_64, ty, e1c, e3c, cc _, kc _, hcc0, hcc1]
                exact .inr ⟨_, _, rfl, by simp, .inr ⟨by simp only [List.drop_eq_getElem_cons hltc, List.all_cons, ← hxc, hcc0, hcc1, Bool.false_and, Bool.and_false], rfl, At.of _ (by simp only [ats, Int.natCast_zero]) (by simp only [List.cons_append, List.append_assoc, List.nil_append]; rfl)⟩⟩
              · simp only [sims, core, pe, Nat.reduceAdd, Int.reduceBEq, Int.reduceBNe, Int.reduceLT, Int.reduceLE, fx_64, ty, e1c, e3c, cc _, kc _, hcc0, hcc1, wrap_nat (show ic ≤ lenTop by omega)]
                exact .inl ⟨ic + 1, _, rfl, hltc, At.of _ (by simp only [ats, Int.natCast_zero]) (by simp only [List.cons_append, List.append_assoc, List.nil_append]; rfl), by simp only []; omega, by simp only [List.drop_eq_getElem_cons hltc, List.all_cons, ← hxc, hcc0, hcc1, Bool.true_and, Bool.and_self]⟩
            · have e1c : ¬ ((ic : Int) < (xa.ways.length : Int)) := by omega
              simp only [sims, core, pe, Nat.reduceAdd, Int.reduceBEq, Int.reduceBNe, Int.reduceLT, Int.reduceLE, fx_64, ty, e1c]
              exact .inr ⟨_, _, rfl, by simp, .inl ⟨by simp only []; rw [List.drop_eq_nil_of_le (by omega)]; rfl, rfl, At.of _ (by simp only [ats, Int.natCast_zero]) (by simp only [List.cons_append, List.append_assoc, List.nil_append]; rfl)⟩⟩)
        rw [List.drop_zero] at h2c
        rcases h2c with ⟨hrc, rfl, h2c⟩ | ⟨hrc, rfl, h2c⟩
        rotate_left
        · obtain ⟨jc', Hc', dc', rfl⟩ := h2c.elim
          clear hlc
          simp only [sims, core, pe, Nat.reduceAdd, Int.reduceBEq, Int.reduceBNe, Int.reduceLT, Int.reduceLE, fx_64, ty]
          exact .inr ⟨_, _, rfl, by simp, .inr ⟨by simp only [List.drop_eq_getElem_cons hlta, List.all_cons, ← hxa, stateB, h5, h6, h7, (show (xa.eqs.all (eqB made)) = true from hrb), hrc, Bool.not_false, Bool.false_and, Bool.and_false], rfl, At.of _ (by simp only [ats, Int.natCast_zero]) (by simp only [List.cons_append, List.append_assoc, List.nil_append]; rfl)⟩⟩
        obtain ⟨jc', Hc', dc', rfl⟩ := h2c.elim
        clear hlc
        simp only [sims, core, pe, Nat.reduceAdd, Int.reduceBEq, Int.reduceBNe, Int.reduceLT, Int.reduceLE, fx_64, ty, wrap_nat (show ia ≤ lenTop by omega)]
        exact .inl ⟨ia + 1, _, rfl, hlta, At.of _ (by simp only [ats, Int.natCast_zero]) (by simp only [List.cons_append, List.append_assoc, List.nil_append]; rfl), by simp only []; omega, by simp only [List.drop_eq_getElem_cons hlta, List.all_cons, ← hxa, stateB, h5, h6, h7, (show (xa.eqs.all (eqB made)) = true from hrb), hrc, Bool.not_false, Bool.true_and, Bool.and_self]⟩
      · have e1a : ¬ ((ia : Int) < (x.states.length : Int)) := by omega
        simp only [sims, core, pe, Nat.reduceAdd, Int.reduceBEq, Int.reduceBNe, Int.reduceLT, Int.reduceLE, fx_64, ty, e1a]
        exact .inr ⟨_, _, rfl, by simp, .inl ⟨by simp only []; rw [List.drop_eq_nil_of_le (by omega)]; rfl, rfl, At.of _ (by simp only [ats, Int.natCast_zero]) (by simp only [List.cons_append, List.append_assoc, List.nil_append]; rfl)⟩⟩)
  rw [List.drop_zero] at h2a
  rcases h2a with ⟨hr1, rfl, h2a⟩ | ⟨hr1, rfl, h2a⟩
  · obtain ⟨j, H, d, rfl⟩ := h2a.elim
    clear hla
    simp only [sims, core, pe, Nat.reduceAdd, Int.reduceBEq, Int.reduceBNe, Int.reduceLT, Int.reduceLE, fx_64, ty, (show (x.states.all (stateB made)) = true from hr1)]
  · obtain ⟨j, H, d, rfl⟩ := h2a.elim
    clear hla
    simp only [sims, core, pe, Nat.reduceAdd, Int.reduceBEq, Int.reduceBNe, Int.reduceLT, Int.reduceLE, fx_64, ty, (show (x.states.all (stateB made)) = false from hr1)]
end Go.Ab
