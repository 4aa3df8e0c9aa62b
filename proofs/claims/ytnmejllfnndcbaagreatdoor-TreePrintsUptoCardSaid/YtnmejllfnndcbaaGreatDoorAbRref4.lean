/- The reference: which programs may be, but for their bounds, the nodes. -/
import Derived.Test.YtnmejllfnndcbaaGreatDoorAbRref3
import Derived.Test.YtnmejllfnndcbaaGreatDoorAbRref5
set_option linter.unusedSimpArgs false
set_option linter.unusedVariables false
namespace Go.Ab
open Go Go.Ab.Tab
set_option maxRecDepth 100000
set_option maxHeartbeats 4000000
set_option linter.unusedSimpArgs false
theorem lt1_dec (n : Nat) : decide ((n : Int) < 1) = ((n : Int) == 0) := by
  cases n with
  | zero => rfl
  | succ n =>
    have h1 : decide (((n + 1 : Nat) : Int) < 1) = false := decide_eq_false (by omega)
    have h2 : (((n + 1 : Nat) : Int) == 0) = false := beq_false_of_ne (by omega)
    rw [h1, h2]
theorem le24_dec (n : Nat) : decide ((n : Int) ≤ 24) = !decide ((24 : Int) < (n : Int)) := (ndec_lt _ _).symm
theorem dec32 (n : Nat) (h : decide ((32 : Int) < (n : Int)) = true) : decide ((8 : Int) < (n : Int)) = true := decide_eq_true (by have := of_decide_eq_true h; omega)
theorem rfield_c (made : Bool) (p : PProg) (hs : p.Small) : Ret C 32 [.agg p.cells, .bool made] (.bool (progB made p)) := by
  refine Ret.mk (by simp [refsL, refs, p.norefs]) rfl ?_
  have hl1 := hs.1
  have hl2 := hs.2.2.1
  have c1 := fun (x : PEnum) hx => rname_c made x.name (hs.2.1 x hx).1
  have c2 := fun (x : PEnum) hx => rcons_c made x.cons (hs.2.1 x hx).2 1 8
  unfold progB
  rw [any_all]
  cases made
  · have em : enumMost false = 8 := rfl
    rw [em]
    rw [C_fn rfl Go.Proofs.Tryz.func32 rfl (by kernel_rfl) (m := 123) rfl]; simp only [sims, core, pe, Nat.reduceAdd, Int.reduceBEq, Int.reduceBNe, Int.reduceLT, Int.reduceLE, Go.Proofs.Tryz.f32, fx_32, ty, lt1_dec]
    cases h0 : decide ((32 : Int) < (p.enums.length : Int))
    rotate_left
    · simp only [sims, core, pe, Nat.reduceAdd, Int.reduceBEq, Int.reduceBNe, Int.reduceLT, Int.reduceLE, fx_32, ty, h0, dec32 _ h0]
    simp only [sims, core, pe, Nat.reduceAdd, Int.reduceBEq, Int.reduceBNe, Int.reduceLT, Int.reduceLE, fx_32, ty, h0]
    cases h1 : decide ((8 : Int) < (p.enums.length : Int))
    rotate_left
    · simp only [sims, core, pe, Nat.reduceAdd, Int.reduceBEq, Int.reduceBNe, Int.reduceLT, Int.reduceLE, fx_32, ty, h1]
    simp only [sims, core, pe, Nat.reduceAdd, Int.reduceBEq, Int.reduceBNe, Int.reduceLT, Int.reduceLE, fx_32, ty, h1, lt1_dec]
    cases h2 : ((p.nodes.length : Int) == 0)
    rotate_left
    · simp only [sims, core, pe, Nat.reduceAdd, Int.reduceBEq, Int.reduceBNe, Int.reduceLT, Int.reduceLE, fx_32, ty, h2]
    simp only [sims, core, pe, Nat.reduceAdd, Int.reduceBEq, Int.reduceBNe, Int.reduceLT, Int.reduceLE, fx_32, ty, h2]
    cases h3 : decide (16 < (p.nodes.length : Int))
    rotate_left
    · simp only [sims, core, pe, Nat.reduceAdd, Int.reduceBEq, Int.reduceBNe, Int.reduceLT, Int.reduceLE, fx_32, ty, h3]
    simp only [sims, core, pe, Nat.reduceAdd, Int.reduceBEq, Int.reduceBNe, Int.reduceLT, Int.reduceLE, fx_32, ty, h3]
    generalize hbb : codeB PP cmp0 C lpC _ = fb; generalize hlb : lpC fb _ = rb
    obtain ⟨exb, sb, rfl, h2b⟩ := lpC_at (α := Nat) hlb [4, 35, 36, 37, 38, 39, 40, 41, 42, 43, 44, 45, 46, 47, 48, 49, 50, 51, 52, 53, 54, 55, 56, 57, 58, 59, 60, 61] (fun i => [(5, .int .i64 i)]) (fun i => i ≤ p.enums.length) (fun i => p.enums.length - i) (fun i => (p.enums.drop i).all fun x => nameB false x.name && consB false x.cons 1 8)
      (AllPostE 0 [4, 5, 35, 36, 37, 38, 39, 40, 41, 42, 43, 44, 45, 46, 47, 48, 49, 50, 51, 52, 53, 54, 55, 56, 57, 58, 59, 60, 61] [5, 35, 36, 37, 38, 39, 40, 41, 42, 43, 44, 45, 46, 47, 48, 49, 50, 51, 52, 53, 54, 55, 56, 57, 58, 59, 60, 61] 4) 0 (Nat.zero_le _) (At.of [] (by simp only [ats, Int.natCast_zero]) (by simp only [List.append_nil])) (by
        intro ib jb Hb db hib
        clear hlb; subst hbb
        by_cases hltb : ib < p.enums.length
        · have e1b : ((ib : Int) < (p.enums.length : Int)) := by omega
          obtain ⟨xb, hxb⟩ : ∃ yy, yy = p.enums[ib] := ⟨_, rfl⟩
          have e3b : (p.enums.map PEnum.cells)[ib]? = some (PEnum.cells xb) := by simp [hltb, hxb]
          have hmb : xb ∈ p.enums := by rw [hxb]; exact List.getElem_mem hltb
          have cb := c1 xb hmb
          have kb := c2 xb hmb
          simp only [sims, core, pe, Nat.reduceAdd, Int.reduceBEq, Int.reduceBNe, Int.reduceLT, Int.reduceLE, fx_32, ty, e1b, e3b, cb _, kb _]
          cases hcb0 : nameB false xb.name
          · simp only [sims, core, pe, Nat.reduceAdd, Int.reduceBEq, Int.reduceBNe, Int.reduceLT, Int.reduceLE, fx_32, ty, e1b, e3b, cb _, kb _, hcb0]
            exact .inr ⟨_, _, rfl, by simp, .inr ⟨by simp only [List.drop_eq_getElem_cons hltb, List.all_cons, ← hxb, hcb0, Bool.false_and, Bool.and_false], rfl, At.of _ (by simp only [ats, Int.natCast_zero]) (by simp only [List.cons_append, List.append_assoc, List.nil_append]; rfl)⟩⟩
          cases hcb1 : consB false xb.cons 1 8
          · simp only [sims, core, pe, Nat.reduceAdd, Int.reduceBEq, Int.reduceBNe, Int.reduceLT, Int.reduceLE, fx_32, ty, e1b, e3b, cb _, kb _, hcb0, hcb1]
            exact .inr ⟨_, _, rfl, by simp, .inr ⟨by simp only [List.drop_eq_getElem_cons hltb, List.all_cons, ← hxb, hcb0, hcb1, Bool.false_and, Bool.and_false], rfl, At.of _ (by simp only [ats, Int.natCast_zero]) (by simp only [List.cons_append, List.append_assoc, List.nil_append]; rfl)⟩⟩
          · simp only [sims, core, pe, Nat.reduceAdd, Int.reduceBEq, Int.reduceBNe, Int.reduceLT, Int.reduceLE, fx_32, ty, e1b, e3b, cb _, kb _, hcb0, hcb1, wrap_nat (show ib ≤ lenTop by omega)]
            exact .inl ⟨ib + 1, _, rfl, hltb, At.of _ (by simp only [ats, Int.natCast_zero]) (by simp only [List.cons_append, List.append_assoc, List.nil_append]; rfl), by simp only []; omega, by simp only [List.drop_eq_getElem_cons hltb, List.all_cons, ← hxb, hcb0, hcb1, Bool.true_and, Bool.and_self]⟩
        · have e1b : ¬ ((ib : Int) < (p.enums.length : Int)) := by omega
          simp only [sims, core, pe, Nat.reduceAdd, Int.reduceBEq, Int.reduceBNe, Int.reduceLT, Int.reduceLE, fx_32, ty, e1b]
          exact .inr ⟨_, _, rfl, by simp, .inl ⟨by simp only []; rw [List.drop_eq_nil_of_le (by omega)]; rfl, rfl, At.of _ (by simp only [ats, Int.natCast_zero]) (by simp only [List.cons_append, List.append_assoc, List.nil_append]; rfl)⟩⟩)
    rw [List.drop_zero] at h2b
    rcases h2b with ⟨hrb, rfl, h2b⟩ | ⟨hrb, rfl, h2b⟩
    rotate_left
    · obtain ⟨jb', Hb', db', rfl⟩ := h2b.elim
      clear hlb
      simp only [sims, core, pe, Nat.reduceAdd, Int.reduceBEq, Int.reduceBNe, Int.reduceLT, Int.reduceLE, fx_32, ty, hrb]
    obtain ⟨jb', Hb', db', rfl⟩ := h2b.elim
    clear hlb
    simp only [sims, core, pe, Nat.reduceAdd, Int.reduceBEq, Int.reduceBNe, Int.reduceLT, Int.reduceLE, fx_32, ty, hrb]
    generalize hba : codeB PP cmp0 C lpC _ = fa; generalize hla : lpC fa _ = ra
    obtain ⟨exa, sa, rfl, h2a⟩ := lpC_at (α := Nat) hla [4, 7, 8, 62, 63, 64, 65, 66, 67, 68, 69, 70, 71, 72, 73, 74, 75, 76, 77, 78, 79, 80, 81, 82, 83, 84, 85, 86, 87, 88, 89, 90, 91, 92, 93, 94, 95, 96, 97, 98, 99, 100, 101, 102, 103, 104, 105, 106, 107, 108, 109, 110, 111, 112, 113, 114, 115, 116, 117, 118, 119, 120, 121, 122, 123, 124] (fun i => [(6, .int .i64 i)]) (fun i => i ≤ p.nodes.length) (fun i => p.nodes.length - i) (fun i => (p.nodes.drop i).all fun x => nodeB false x)
      (AllPostE 2 [4, 6, 7, 8, 62, 63, 64, 65, 66, 67, 68, 69, 70, 71, 72, 73, 74, 75, 76, 77, 78, 79, 80, 81, 82, 83, 84, 85, 86, 87, 88, 89, 90, 91, 92, 93, 94, 95, 96, 97, 98, 99, 100, 101, 102, 103, 104, 105, 106, 107, 108, 109, 110, 111, 112, 113, 114, 115, 116, 117, 118, 119, 120, 121, 122, 123, 124] [6, 7, 8, 62, 63, 64, 65, 66, 67, 68, 69, 70, 71, 72, 73, 74, 75, 76, 77, 78, 79, 80, 81, 82, 83, 84, 85, 86, 87, 88, 89, 90, 91, 92, 93, 94, 95, 96, 97, 98, 99, 100, 101, 102, 103, 104, 105, 106, 107, 108, 109, 110, 111, 112, 113, 114, 115, 116, 117, 118, 119, 120, 121, 122, 123, 124] 4) 0 (Nat.zero_le _) (At.of [] (by simp only [ats, Int.natCast_zero]) (by simp only [List.append_nil])) (by
        intro ia ja Ha da hia
        clear hla; subst hba
        by_cases hlta : ia < p.nodes.length
        · have e1a : ((ia : Int) < (p.nodes.length : Int)) := by omega
          obtain ⟨xa, hxa⟩ : ∃ yy, yy = p.nodes[ia] := ⟨_, rfl⟩
          have e3a : (p.nodes.map PNode.cells)[ia]? = some (PNode.cells xa) := by simp [hlta, hxa]
          have hma : xa ∈ p.nodes := by rw [hxa]; exact List.getElem_mem hlta
          have hna := hs.2.2.2 xa hma
          have hl3 := hna.2.2.2.2.1
          have k1 := rname_c false xa.name hna.1
          have k2 := rnames_c false xa.funs hna.2.1 0 6
          have k3 := rnames_c false xa.ins hna.2.2.1 1 6
          have k4 := rnames_c false xa.outs hna.2.2.2.1 1 6
          simp only [sims, core, pe, Nat.reduceAdd, Int.reduceBEq, Int.reduceBNe, Int.reduceLT, Int.reduceLE, fx_32, ty, e1a, e3a, k1 _]
          cases g1 : nameB false xa.name
          · simp only [sims, core, pe, Nat.reduceAdd, Int.reduceBEq, Int.reduceBNe, Int.reduceLT, Int.reduceLE, fx_32, ty, g1]
            exact .inr ⟨_, _, rfl, by simp, .inr ⟨by simp only [List.drop_eq_getElem_cons hlta, List.all_cons, ← hxa, nodeB, any_all, le24_dec, g1, Bool.false_and, Bool.and_false], rfl, At.of _ (by simp only [ats, Int.natCast_zero]) (by simp only [List.cons_append, List.append_assoc, List.nil_append]; rfl)⟩⟩
          simp only [sims, core, pe, Nat.reduceAdd, Int.reduceBEq, Int.reduceBNe, Int.reduceLT, Int.reduceLE, fx_32, ty, g1, k2 _]
          cases g2 : namesB false xa.funs 0 6
          · simp only [sims, core, pe, Nat.reduceAdd, Int.reduceBEq, Int.reduceBNe, Int.reduceLT, Int.reduceLE, fx_32, ty, g2]
            exact .inr ⟨_, _, rfl, by simp, .inr ⟨by simp only [List.drop_eq_getElem_cons hlta, List.all_cons, ← hxa, nodeB, any_all, le24_dec, g1, g2, Bool.false_and, Bool.and_false], rfl, At.of _ (by simp only [ats, Int.natCast_zero]) (by simp only [List.cons_append, List.append_assoc, List.nil_append]; rfl)⟩⟩
          simp only [sims, core, pe, Nat.reduceAdd, Int.reduceBEq, Int.reduceBNe, Int.reduceLT, Int.reduceLE, fx_32, ty, g2, k3 _]
          cases g3 : namesB false xa.ins 1 6
          · simp only [sims, core, pe, Nat.reduceAdd, Int.reduceBEq, Int.reduceBNe, Int.reduceLT, Int.reduceLE, fx_32, ty, g3]
            exact .inr ⟨_, _, rfl, by simp, .inr ⟨by simp only [List.drop_eq_getElem_cons hlta, List.all_cons, ← hxa, nodeB, any_all, le24_dec, g1, g2, g3, Bool.false_and, Bool.and_false], rfl, At.of _ (by simp only [ats, Int.natCast_zero]) (by simp only [List.cons_append, List.append_assoc, List.nil_append]; rfl)⟩⟩
          simp only [sims, core, pe, Nat.reduceAdd, Int.reduceBEq, Int.reduceBNe, Int.reduceLT, Int.reduceLE, fx_32, ty, g3, k4 _]
          cases g4 : namesB false xa.outs 1 6
          · simp only [sims, core, pe, Nat.reduceAdd, Int.reduceBEq, Int.reduceBNe, Int.reduceLT, Int.reduceLE, fx_32, ty, g4]
            exact .inr ⟨_, _, rfl, by simp, .inr ⟨by simp only [List.drop_eq_getElem_cons hlta, List.all_cons, ← hxa, nodeB, any_all, le24_dec, g1, g2, g3, g4, Bool.false_and, Bool.and_false], rfl, At.of _ (by simp only [ats, Int.natCast_zero]) (by simp only [List.cons_append, List.append_assoc, List.nil_append]; rfl)⟩⟩
          simp only [sims, core, pe, Nat.reduceAdd, Int.reduceBEq, Int.reduceBNe, Int.reduceLT, Int.reduceLE, fx_32, ty, g4, k4 _]
          cases g5 : decide (24 < (xa.items.length : Int))
          rotate_left
          · simp only [sims, core, pe, Nat.reduceAdd, Int.reduceBEq, Int.reduceBNe, Int.reduceLT, Int.reduceLE, fx_32, ty, g5]
            exact .inr ⟨_, _, rfl, by simp, .inr ⟨by simp only [List.drop_eq_getElem_cons hlta, List.all_cons, ← hxa, nodeB, any_all, le24_dec, g1, g2, g3, g4, g5, Bool.not_true, Bool.not_false, Bool.false_or, Bool.false_and, Bool.and_false], rfl, At.of _ (by simp only [ats, Int.natCast_zero]) (by simp only [List.cons_append, List.append_assoc, List.nil_append]; rfl)⟩⟩
          simp only [sims, core, pe, Nat.reduceAdd, Int.reduceBEq, Int.reduceBNe, Int.reduceLT, Int.reduceLE, fx_32, ty, g5]
          generalize hbc : codeB PP cmp0 C lpC _ = fc; generalize hlc : lpC fc _ = rc
          obtain ⟨exc, sc, rfl, h2c⟩ := lpC_at (α := Nat) hlc [4, 110, 111, 112, 113, 114, 115, 116, 117, 118, 119, 120, 121, 122, 123, 124] (fun i => [(8, .int .i64 i)]) (fun i => i ≤ xa.items.length) (fun i => xa.items.length - i) (fun i => (xa.items.drop i).all fun x => itemB false x)
            (AllPostE 4 [4, 8, 110, 111, 112, 113, 114, 115, 116, 117, 118, 119, 120, 121, 122, 123, 124] [8, 110, 111, 112, 113, 114, 115, 116, 117, 118, 119, 120, 121, 122, 123, 124] 4) 0 (Nat.zero_le _) (At.of [] (by simp only [ats, Int.natCast_zero]) (by simp only [List.append_nil])) (by
              intro ic jc Hc dc hic
              clear hlc; subst hbc
              by_cases hltc : ic < xa.items.length
              · have e1c : ((ic : Int) < (xa.items.length : Int)) := by omega
                obtain ⟨xc, hxc⟩ : ∃ yy, yy = xa.items[ic] := ⟨_, rfl⟩
                have e3c : (xa.items.map PItem.cells)[ic]? = some (PItem.cells xc) := by simp [hltc, hxc]
                have hmc : xc ∈ xa.items := by rw [hxc]; exact List.getElem_mem hltc
                have cc := ritem_c false xc (hna.2.2.2.2.2 xc hmc)
                simp only [sims, core, pe, Nat.reduceAdd, Int.reduceBEq, Int.reduceBNe, Int.reduceLT, Int.reduceLE, fx_32, ty, e1c, e3c, cc _]
                cases hcc0 : itemB false xc
                · simp only [sims, core, pe, Nat.reduceAdd, Int.reduceBEq, Int.reduceBNe, Int.reduceLT, Int.reduceLE, fx_32, ty, e1c, e3c, cc _, hcc0]
                  exact .inr ⟨_, _, rfl, by simp, .inr ⟨by simp only [List.drop_eq_getElem_cons hltc, List.all_cons, ← hxc, hcc0, Bool.false_and, Bool.and_false], rfl, At.of _ (by simp only [ats, Int.natCast_zero]) (by simp only [List.cons_append, List.append_assoc, List.nil_append]; rfl)⟩⟩
                · simp only [sims, core, pe, Nat.reduceAdd, Int.reduceBEq, Int.reduceBNe, Int.reduceLT, Int.reduceLE, fx_32, ty, e1c, e3c, cc _, hcc0, wrap_nat (show ic ≤ lenTop by omega)]
                  exact .inl ⟨ic + 1, _, rfl, hltc, At.of _ (by simp only [ats, Int.natCast_zero]) (by simp only [List.cons_append, List.append_assoc, List.nil_append]; rfl), by simp only []; omega, by simp only [List.drop_eq_getElem_cons hltc, List.all_cons, ← hxc, hcc0, Bool.true_and, Bool.and_self]⟩
              · have e1c : ¬ ((ic : Int) < (xa.items.length : Int)) := by omega
                simp only [sims, core, pe, Nat.reduceAdd, Int.reduceBEq, Int.reduceBNe, Int.reduceLT, Int.reduceLE, fx_32, ty, e1c]
                exact .inr ⟨_, _, rfl, by simp, .inl ⟨by simp only []; rw [List.drop_eq_nil_of_le (by omega)]; rfl, rfl, At.of _ (by simp only [ats, Int.natCast_zero]) (by simp only [List.cons_append, List.append_assoc, List.nil_append]; rfl)⟩⟩)
          rw [List.drop_zero] at h2c
          rcases h2c with ⟨hrc, rfl, h2c⟩ | ⟨hrc, rfl, h2c⟩
          rotate_left
          · obtain ⟨jc', Hc', dc', rfl⟩ := h2c.elim
            clear hlc
            simp only [sims, core, pe, Nat.reduceAdd, Int.reduceBEq, Int.reduceBNe, Int.reduceLT, Int.reduceLE, fx_32, ty]
            exact .inr ⟨_, _, rfl, by simp, .inr ⟨by simp only [List.drop_eq_getElem_cons hlta, List.all_cons, ← hxa, nodeB, any_all, le24_dec, g1, g2, g3, g4, g5, Bool.not_true, Bool.not_false, Bool.false_or, (show (xa.items.all (itemB false)) = false from hrc), Bool.false_and, Bool.and_false], rfl, At.of _ (by simp only [ats, Int.natCast_zero]) (by simp only [List.cons_append, List.append_assoc, List.nil_append]; rfl)⟩⟩
          obtain ⟨jc', Hc', dc', rfl⟩ := h2c.elim
          clear hlc
          simp only [sims, core, pe, Nat.reduceAdd, Int.reduceBEq, Int.reduceBNe, Int.reduceLT, Int.reduceLE, fx_32, ty, wrap_nat (show ia ≤ lenTop by omega)]
          exact .inl ⟨ia + 1, _, rfl, hlta, At.of _ (by simp only [ats, Int.natCast_zero]) (by simp only [List.cons_append, List.append_assoc, List.nil_append]; rfl), by simp only []; omega, by simp only [List.drop_eq_getElem_cons hlta, List.all_cons, ← hxa, nodeB, any_all, le24_dec, g1, g2, g3, g4, g5, Bool.not_true, Bool.not_false, Bool.false_or, (show (xa.items.all (itemB false)) = true from hrc), Bool.true_and, Bool.and_self]⟩
        · have e1a : ¬ ((ia : Int) < (p.nodes.length : Int)) := by omega
          simp only [sims, core, pe, Nat.reduceAdd, Int.reduceBEq, Int.reduceBNe, Int.reduceLT, Int.reduceLE, fx_32, ty, e1a]
          exact .inr ⟨_, _, rfl, by simp, .inl ⟨by simp only []; rw [List.drop_eq_nil_of_le (by omega)]; rfl, rfl, At.of _ (by simp only [ats, Int.natCast_zero]) (by simp only [List.cons_append, List.append_assoc, List.nil_append]; rfl)⟩⟩)
    rw [List.drop_zero] at h2a
    rcases h2a with ⟨hr1, rfl, h2a⟩ | ⟨hr1, rfl, h2a⟩
    · obtain ⟨j, H, d, rfl⟩ := h2a.elim
      clear hla
      simp only [sims, core, pe, Nat.reduceAdd, Int.reduceBEq, Int.reduceBNe, Int.reduceLT, Int.reduceLE, fx_32, ty, (show (p.nodes.all (nodeB false)) = true from hr1)]
    · obtain ⟨j, H, d, rfl⟩ := h2a.elim
      clear hla
      simp only [sims, core, pe, Nat.reduceAdd, Int.reduceBEq, Int.reduceBNe, Int.reduceLT, Int.reduceLE, fx_32, ty, (show (p.nodes.all (nodeB false)) = false from hr1)]
  · have em : enumMost true = 32 := rfl
    rw [em]
    rw [C_fn rfl Go.Proofs.Tryz.func32 rfl (by kernel_rfl) (m := 123) rfl]; simp only [sims, core, pe, Nat.reduceAdd, Int.reduceBEq, Int.reduceBNe, Int.reduceLT, Int.reduceLE, Go.Proofs.Tryz.f32, fx_32, ty, lt1_dec]
    cases h1 : decide ((32 : Int) < (p.enums.length : Int))
    rotate_left
    · simp only [sims, core, pe, Nat.reduceAdd, Int.reduceBEq, Int.reduceBNe, Int.reduceLT, Int.reduceLE, fx_32, ty, h1]
    simp only [sims, core, pe, Nat.reduceAdd, Int.reduceBEq, Int.reduceBNe, Int.reduceLT, Int.reduceLE, fx_32, ty, h1, lt1_dec]
    cases h2 : ((p.nodes.length : Int) == 0)
    rotate_left
    · simp only [sims, core, pe, Nat.reduceAdd, Int.reduceBEq, Int.reduceBNe, Int.reduceLT, Int.reduceLE, fx_32, ty, h2]
    simp only [sims, core, pe, Nat.reduceAdd, Int.reduceBEq, Int.reduceBNe, Int.reduceLT, Int.reduceLE, fx_32, ty, h2]
    cases h3 : decide (16 < (p.nodes.length : Int))
    rotate_left
    · simp only [sims, core, pe, Nat.reduceAdd, Int.reduceBEq, Int.reduceBNe, Int.reduceLT, Int.reduceLE, fx_32, ty, h3]
    simp only [sims, core, pe, Nat.reduceAdd, Int.reduceBEq, Int.reduceBNe, Int.reduceLT, Int.reduceLE, fx_32, ty, h3]
    generalize hbb : codeB PP cmp0 C lpC _ = fb; generalize hlb : lpC fb _ = rb
    obtain ⟨exb, sb, rfl, h2b⟩ := lpC_at (α := Nat) hlb [4, 35, 36, 37, 38, 39, 40, 41, 42, 43, 44, 45, 46, 47, 48, 49, 50, 51, 52, 53, 54, 55, 56, 57, 58, 59, 60, 61] (fun i => [(5, .int .i64 i)]) (fun i => i ≤ p.enums.length) (fun i => p.enums.length - i) (fun i => (p.enums.drop i).all fun x => nameB true x.name && consB true x.cons 1 8)
      (AllPostE 0 [4, 5, 35, 36, 37, 38, 39, 40, 41, 42, 43, 44, 45, 46, 47, 48, 49, 50, 51, 52, 53, 54, 55, 56, 57, 58, 59, 60, 61] [5, 35, 36, 37, 38, 39, 40, 41, 42, 43, 44, 45, 46, 47, 48, 49, 50, 51, 52, 53, 54, 55, 56, 57, 58, 59, 60, 61] 4) 0 (Nat.zero_le _) (At.of [] (by simp only [ats, Int.natCast_zero]) (by simp only [List.append_nil])) (by
        intro ib jb Hb db hib
        clear hlb; subst hbb
        by_cases hltb : ib < p.enums.length
        · have e1b : ((ib : Int) < (p.enums.length : Int)) := by omega
          obtain ⟨xb, hxb⟩ : ∃ yy, yy = p.enums[ib] := ⟨_, rfl⟩
          have e3b : (p.enums.map PEnum.cells)[ib]? = some (PEnum.cells xb) := by simp [hltb, hxb]
          have hmb : xb ∈ p.enums := by rw [hxb]; exact List.getElem_mem hltb
          have cb := c1 xb hmb
          have kb := c2 xb hmb
          simp only [sims, core, pe, Nat.reduceAdd, Int.reduceBEq, Int.reduceBNe, Int.reduceLT, Int.reduceLE, fx_32, ty, e1b, e3b, cb _, kb _]
          cases hcb0 : nameB true xb.name
          · simp only [sims, core, pe, Nat.reduceAdd, Int.reduceBEq, Int.reduceBNe, Int.reduceLT, Int.reduceLE, fx_32, ty, e1b, e3b, cb _, kb _, hcb0]
            exact .inr ⟨_, _, rfl, by simp, .inr ⟨by simp only [List.drop_eq_getElem_cons hltb, List.all_cons, ← hxb, hcb0, Bool.false_and, Bool.and_false], rfl, At.of _ (by simp only [ats, Int.natCast_zero]) (by simp only [List.cons_append, List.append_assoc, List.nil_append]; rfl)⟩⟩
          cases hcb1 : consB true xb.cons 1 8
          · simp only [sims, core, pe, Nat.reduceAdd, Int.reduceBEq, Int.reduceBNe, Int.reduceLT, Int.reduceLE, fx_32, ty, e1b, e3b, cb _, kb _, hcb0, hcb1]
            exact .inr ⟨_, _, rfl, by simp, .inr ⟨by simp only [List.drop_eq_getElem_cons hltb, List.all_cons, ← hxb, hcb0, hcb1, Bool.false_and, Bool.and_false], rfl, At.of _ (by simp only [ats, Int.natCast_zero]) (by simp only [List.cons_append, List.append_assoc, List.nil_append]; rfl)⟩⟩
          · simp only [sims, core, pe, Nat.reduceAdd, Int.reduceBEq, Int.reduceBNe, Int.reduceLT, Int.reduceLE, fx_32, ty, e1b, e3b, cb _, kb _, hcb0, hcb1, wrap_nat (show ib ≤ lenTop by omega)]
            exact .inl ⟨ib + 1, _, rfl, hltb, At.of _ (by simp only [ats, Int.natCast_zero]) (by simp only [List.cons_append, List.append_assoc, List.nil_append]; rfl), by simp only []; omega, by simp only [List.drop_eq_getElem_cons hltb, List.all_cons, ← hxb, hcb0, hcb1, Bool.true_and, Bool.and_self]⟩
        · have e1b : ¬ ((ib : Int) < (p.enums.length : Int)) := by omega
          simp only [sims, core, pe, Nat.reduceAdd, Int.reduceBEq, Int.reduceBNe, Int.reduceLT, Int.reduceLE, fx_32, ty, e1b]
          exact .inr ⟨_, _, rfl, by simp, .inl ⟨by simp only []; rw [List.drop_eq_nil_of_le (by omega)]; rfl, rfl, At.of _ (by simp only [ats, Int.natCast_zero]) (by simp only [List.cons_append, List.append_assoc, List.nil_append]; rfl)⟩⟩)
    rw [List.drop_zero] at h2b
    rcases h2b with ⟨hrb, rfl, h2b⟩ | ⟨hrb, rfl, h2b⟩
    rotate_left
    · obtain ⟨jb', Hb', db', rfl⟩ := h2b.elim
      clear hlb
      simp only [sims, core, pe, Nat.reduceAdd, Int.reduceBEq, Int.reduceBNe, Int.reduceLT, Int.reduceLE, fx_32, ty, hrb]
    obtain ⟨jb', Hb', db', rfl⟩ := h2b.elim
    clear hlb
    simp only [sims, core, pe, Nat.reduceAdd, Int.reduceBEq, Int.reduceBNe, Int.reduceLT, Int.reduceLE, fx_32, ty, hrb]
    generalize hba : codeB PP cmp0 C lpC _ = fa; generalize hla : lpC fa _ = ra
    obtain ⟨exa, sa, rfl, h2a⟩ := lpC_at (α := Nat) hla [4, 7, 8, 62, 63, 64, 65, 66, 67, 68, 69, 70, 71, 72, 73, 74, 75, 76, 77, 78, 79, 80, 81, 82, 83, 84, 85, 86, 87, 88, 89, 90, 91, 92, 93, 94, 95, 96, 97, 98, 99, 100, 101, 102, 103, 104, 105, 106, 107, 108, 109, 110, 111, 112, 113, 114, 115, 116, 117, 118, 119, 120, 121, 122, 123, 124] (fun i => [(6, .int .i64 i)]) (fun i => i ≤ p.nodes.length) (fun i => p.nodes.length - i) (fun i => (p.nodes.drop i).all fun x => nodeB true x)
      (AllPostE 2 [4, 6, 7, 8, 62, 63, 64, 65, 66, 67, 68, 69, 70, 71, 72, 73, 74, 75, 76, 77, 78, 79, 80, 81, 82, 83, 84, 85, 86, 87, 88, 89, 90, 91, 92, 93, 94, 95, 96, 97, 98, 99, 100, 101, 102, 103, 104, 105, 106, 107, 108, 109, 110, 111, 112, 113, 114, 115, 116, 117, 118, 119, 120, 121, 122, 123, 124] [6, 7, 8, 62, 63, 64, 65, 66, 67, 68, 69, 70, 71, 72, 73, 74, 75, 76, 77, 78, 79, 80, 81, 82, 83, 84, 85, 86, 87, 88, 89, 90, 91, 92, 93, 94, 95, 96, 97, 98, 99, 100, 101, 102, 103, 104, 105, 106, 107, 108, 109, 110, 111, 112, 113, 114, 115, 116, 117, 118, 119, 120, 121, 122, 123, 124] 4) 0 (Nat.zero_le _) (At.of [] (by simp only [ats, Int.natCast_zero]) (by simp only [List.append_nil])) (by
        intro ia ja Ha da hia
        clear hla; subst hba
        by_cases hlta : ia < p.nodes.length
        · have e1a : ((ia : Int) < (p.nodes.length : Int)) := by omega
          obtain ⟨xa, hxa⟩ : ∃ yy, yy = p.nodes[ia] := ⟨_, rfl⟩
          have e3a : (p.nodes.map PNode.cells)[ia]? = some (PNode.cells xa) := by simp [hlta, hxa]
          have hma : xa ∈ p.nodes := by rw [hxa]; exact List.getElem_mem hlta
          have hna := hs.2.2.2 xa hma
          have hl3 := hna.2.2.2.2.1
          have k1 := rname_c true xa.name hna.1
          have k2 := rnames_c true xa.funs hna.2.1 0 6
          have k3 := rnames_c true xa.ins hna.2.2.1 1 6
          have k4 := rnames_c true xa.outs hna.2.2.2.1 1 6
          simp only [sims, core, pe, Nat.reduceAdd, Int.reduceBEq, Int.reduceBNe, Int.reduceLT, Int.reduceLE, fx_32, ty, e1a, e3a, k1 _]
          cases g1 : nameB true xa.name
          · simp only [sims, core, pe, Nat.reduceAdd, Int.reduceBEq, Int.reduceBNe, Int.reduceLT, Int.reduceLE, fx_32, ty, g1]
            exact .inr ⟨_, _, rfl, by simp, .inr ⟨by simp only [List.drop_eq_getElem_cons hlta, List.all_cons, ← hxa, nodeB, any_all, le24_dec, g1, Bool.false_and, Bool.and_false], rfl, At.of _ (by simp only [ats, Int.natCast_zero]) (by simp only [List.cons_append, List.append_assoc, List.nil_append]; rfl)⟩⟩
          simp only [sims, core, pe, Nat.reduceAdd, Int.reduceBEq, Int.reduceBNe, Int.reduceLT, Int.reduceLE, fx_32, ty, g1, k2 _]
          cases g2 : namesB true xa.funs 0 6
          · simp only [sims, core, pe, Nat.reduceAdd, Int.reduceBEq, Int.reduceBNe, Int.reduceLT, Int.reduceLE, fx_32, ty, g2]
            exact .inr ⟨_, _, rfl, by simp, .inr ⟨by simp only [List.drop_eq_getElem_cons hlta, List.all_cons, ← hxa, nodeB, any_all, le24_dec, g1, g2, Bool.false_and, Bool.and_false], rfl, At.of _ (by simp only [ats, Int.natCast_zero]) (by simp only [List.cons_append, List.append_assoc, List.nil_append]; rfl)⟩⟩
          simp only [sims, core, pe, Nat.reduceAdd, Int.reduceBEq, Int.reduceBNe, Int.reduceLT, Int.reduceLE, fx_32, ty, g2, k3 _]
          cases g3 : namesB true xa.ins 1 6
          · simp only [sims, core, pe, Nat.reduceAdd, Int.reduceBEq, Int.reduceBNe, Int.reduceLT, Int.reduceLE, fx_32, ty, g3]
            exact .inr ⟨_, _, rfl, by simp, .inr ⟨by simp only [List.drop_eq_getElem_cons hlta, List.all_cons, ← hxa, nodeB, any_all, le24_dec, g1, g2, g3, Bool.false_and, Bool.and_false], rfl, At.of _ (by simp only [ats, Int.natCast_zero]) (by simp only [List.cons_append, List.append_assoc, List.nil_append]; rfl)⟩⟩
          simp only [sims, core, pe, Nat.reduceAdd, Int.reduceBEq, Int.reduceBNe, Int.reduceLT, Int.reduceLE, fx_32, ty, g3, k4 _]
          cases g4 : namesB true xa.outs 1 6
          · simp only [sims, core, pe, Nat.reduceAdd, Int.reduceBEq, Int.reduceBNe, Int.reduceLT, Int.reduceLE, fx_32, ty, g4]
            exact .inr ⟨_, _, rfl, by simp, .inr ⟨by simp only [List.drop_eq_getElem_cons hlta, List.all_cons, ← hxa, nodeB, any_all, le24_dec, g1, g2, g3, g4, Bool.false_and, Bool.and_false], rfl, At.of _ (by simp only [ats, Int.natCast_zero]) (by simp only [List.cons_append, List.append_assoc, List.nil_append]; rfl)⟩⟩
          simp only [sims, core, pe, Nat.reduceAdd, Int.reduceBEq, Int.reduceBNe, Int.reduceLT, Int.reduceLE, fx_32, ty, g4, k4 _]
          generalize hbc : codeB PP cmp0 C lpC _ = fc; generalize hlc : lpC fc _ = rc
          obtain ⟨exc, sc, rfl, h2c⟩ := lpC_at (α := Nat) hlc [4, 110, 111, 112, 113, 114, 115, 116, 117, 118, 119, 120, 121, 122, 123, 124] (fun i => [(8, .int .i64 i)]) (fun i => i ≤ xa.items.length) (fun i => xa.items.length - i) (fun i => (xa.items.drop i).all fun x => itemB true x)
            (AllPostE 4 [4, 8, 110, 111, 112, 113, 114, 115, 116, 117, 118, 119, 120, 121, 122, 123, 124] [8, 110, 111, 112, 113, 114, 115, 116, 117, 118, 119, 120, 121, 122, 123, 124] 4) 0 (Nat.zero_le _) (At.of [] (by simp only [ats, Int.natCast_zero]) (by simp only [List.append_nil])) (by
              intro ic jc Hc dc hic
              clear hlc; subst hbc
              by_cases hltc : ic < xa.items.length
              · have e1c : ((ic : Int) < (xa.items.length : Int)) := by omega
                obtain ⟨xc, hxc⟩ : ∃ yy, yy = xa.items[ic] := ⟨_, rfl⟩
                have e3c : (xa.items.map PItem.cells)[ic]? = some (PItem.cells xc) := by simp [hltc, hxc]
                have hmc : xc ∈ xa.items := by rw [hxc]; exact List.getElem_mem hltc
                have cc := ritem_c true xc (hna.2.2.2.2.2 xc hmc)
                simp only [sims, core, pe, Nat.reduceAdd, Int.reduceBEq, Int.reduceBNe, Int.reduceLT, Int.reduceLE, fx_32, ty, e1c, e3c, cc _]
                cases hcc0 : itemB true xc
                · simp only [sims, core, pe, Nat.reduceAdd, Int.reduceBEq, Int.reduceBNe, Int.reduceLT, Int.reduceLE, fx_32, ty, e1c, e3c, cc _, hcc0]
                  exact .inr ⟨_, _, rfl, by simp, .inr ⟨by simp only [List.drop_eq_getElem_cons hltc, List.all_cons, ← hxc, hcc0, Bool.false_and, Bool.and_false], rfl, At.of _ (by simp only [ats, Int.natCast_zero]) (by simp only [List.cons_append, List.append_assoc, List.nil_append]; rfl)⟩⟩
                · simp only [sims, core, pe, Nat.reduceAdd, Int.reduceBEq, Int.reduceBNe, Int.reduceLT, Int.reduceLE, fx_32, ty, e1c, e3c, cc _, hcc0, wrap_nat (show ic ≤ lenTop by omega)]
                  exact .inl ⟨ic + 1, _, rfl, hltc, At.of _ (by simp only [ats, Int.natCast_zero]) (by simp only [List.cons_append, List.append_assoc, List.nil_append]; rfl), by simp only []; omega, by simp only [List.drop_eq_getElem_cons hltc, List.all_cons, ← hxc, hcc0, Bool.true_and, Bool.and_self]⟩
              · have e1c : ¬ ((ic : Int) < (xa.items.length : Int)) := by omega
                simp only [sims, core, pe, Nat.reduceAdd, Int.reduceBEq, Int.reduceBNe, Int.reduceLT, Int.reduceLE, fx_32, ty, e1c]
                exact .inr ⟨_, _, rfl, by simp, .inl ⟨by simp only []; rw [List.drop_eq_nil_of_le (by omega)]; rfl, rfl, At.of _ (by simp only [ats, Int.natCast_zero]) (by simp only [List.cons_append, List.append_assoc, List.nil_append]; rfl)⟩⟩)
          rw [List.drop_zero] at h2c
          rcases h2c with ⟨hrc, rfl, h2c⟩ | ⟨hrc, rfl, h2c⟩
          rotate_left
          · obtain ⟨jc', Hc', dc', rfl⟩ := h2c.elim
            clear hlc
            simp only [sims, core, pe, Nat.reduceAdd, Int.reduceBEq, Int.reduceBNe, Int.reduceLT, Int.reduceLE, fx_32, ty]
            exact .inr ⟨_, _, rfl, by simp, .inr ⟨by simp only [List.drop_eq_getElem_cons hlta, List.all_cons, ← hxa, nodeB, any_all, le24_dec, g1, g2, g3, g4, Bool.true_or, Bool.not_true, (show (xa.items.all (itemB true)) = false from hrc), Bool.false_and, Bool.and_false], rfl, At.of _ (by simp only [ats, Int.natCast_zero]) (by simp only [List.cons_append, List.append_assoc, List.nil_append]; rfl)⟩⟩
          obtain ⟨jc', Hc', dc', rfl⟩ := h2c.elim
          clear hlc
          simp only [sims, core, pe, Nat.reduceAdd, Int.reduceBEq, Int.reduceBNe, Int.reduceLT, Int.reduceLE, fx_32, ty, wrap_nat (show ia ≤ lenTop by omega)]
          exact .inl ⟨ia + 1, _, rfl, hlta, At.of _ (by simp only [ats, Int.natCast_zero]) (by simp only [List.cons_append, List.append_assoc, List.nil_append]; rfl), by simp only []; omega, by simp only [List.drop_eq_getElem_cons hlta, List.all_cons, ← hxa, nodeB, any_all, le24_dec, g1, g2, g3, g4, Bool.true_or, Bool.not_true, (show (xa.items.all (itemB true)) = true from hrc), Bool.true_and, Bool.and_self]⟩
        · have e1a : ¬ ((ia : Int) < (p.nodes.length : Int)) := by omega
          simp only [sims, core, pe, Nat.reduceAdd, Int.reduceBEq, Int.reduceBNe, Int.reduceLT, Int.reduceLE, fx_32, ty, e1a]
          exact .inr ⟨_, _, rfl, by simp, .inl ⟨by simp only []; rw [List.drop_eq_nil_of_le (by omega)]; rfl, rfl, At.of _ (by simp only [ats, Int.natCast_zero]) (by simp only [List.cons_append, List.append_assoc, List.nil_append]; rfl)⟩⟩)
    rw [List.drop_zero] at h2a
    rcases h2a with ⟨hr1, rfl, h2a⟩ | ⟨hr1, rfl, h2a⟩
    · obtain ⟨j, H, d, rfl⟩ := h2a.elim
      clear hla
      simp only [sims, core, pe, Nat.reduceAdd, Int.reduceBEq, Int.reduceBNe, Int.reduceLT, Int.reduceLE, fx_32, ty, (show (p.nodes.all (nodeB true)) = true from hr1)]
    · obtain ⟨j, H, d, rfl⟩ := h2a.elim
      clear hla
      simp only [sims, core, pe, Nat.reduceAdd, Int.reduceBEq, Int.reduceBNe, Int.reduceLT, Int.reduceLE, fx_32, ty, (show (p.nodes.all (nodeB true)) = false from hr1)]
end Go.Ab
/- The reference: which programs may be. -/
namespace Go.Ab
open Go Go.Ab.Tab
set_option maxRecDepth 100000
set_option maxHeartbeats 4000000
set_option linter.unusedSimpArgs false
theorem PState.exprs_small {s : PState} (h : s.Small) : ∀ x ∈ s.exprs, x.Small := by
  intro x hx
  rcases List.mem_append.1 hx with hx | hx
  · obtain ⟨q, hq, rfl⟩ := List.mem_map.1 hx; exact (h.2.2.1 q hq).2
  · obtain ⟨q, hq, rfl⟩ := List.mem_map.1 hx; exact (h.2.2.2.2 q hq).1
theorem PItem.exprs_small {i : PItem} (h : i.Small) : ∀ x ∈ i.exprs, x.Small := by
  intro x hx
  rcases List.mem_append.1 hx with hx | hx
  · split at hx
    · simp only [List.mem_cons, List.not_mem_nil, or_false] at hx; subst hx; exact h.1.2
    · cases hx
  · obtain ⟨s, hs, hx⟩ := List.mem_flatMap.1 hx; exact PState.exprs_small (h.2.2 s hs) x hx
theorem PNode.exprs_small {n : PNode} (h : n.Small) : ∀ x ∈ n.exprs, x.Small := by
  intro x hx
  obtain ⟨s, hs, hx⟩ := List.mem_flatMap.1 hx; exact PItem.exprs_small (h.2.2.2.2.2 s hs) x hx
def szs (a : Int) (l : List PExpr) : Int := l.foldl (fun a x => wadd a x.size) a
def deepB (l : List PExpr) : Bool := l.any fun x => decide (40 < x.depth)
def innR (a : Int) (l : List PExpr) : Option Int := if deepB l = true then none else some (szs a l)
theorem accE_fst (l : List PExpr) : ∀ p : Int × Int, (accE p l).1 = szs p.1 l := by
  induction l with
  | nil => intro p; rfl
  | cons x r ih => intro p; rw [accE_cons, ih]; rfl
theorem accE_snd (l : List PExpr) : ∀ p : Int × Int, decide (40 < (accE p l).2) = (decide (40 < p.2) || deepB l) := by
  induction l with
  | nil => intro p; exact (Bool.or_false _).symm
  | cons x r ih =>
    intro p
    rw [accE_cons, ih]
    simp only [deepB, List.any_cons]
    rw [← Bool.or_assoc]
    congr 1
    unfold imax
    split
    · by_cases h1 : 40 < x.depth
      · simp [h1]
      · have : ¬ 40 < p.2 := by omega
        simp [h1, this]
    · by_cases h1 : 40 < p.2
      · simp [h1]
      · have : ¬ 40 < x.depth := by omega
        simp [h1, this]
theorem greatB_eq (n : PNode) : greatB n = (match innR 0 n.exprs with | none => true | some z => decide (300 < z)) := by
  unfold greatB innR
  rw [accE_fst, accE_snd]
  have : decide ((40 : Int) < ((0, 0) : Int × Int).2) = false := by decide
  rw [this, Bool.false_or]
  cases h : deepB n.exprs with
  | true => simp
  | false => simp
theorem rright_c (made : Bool) (p : PProg) (hs : p.Small) (hx : ∀ n ∈ p.nodes, n.exprs.length ≤ lenTop) : Ret C 12 [.agg p.cells, .bool made] (.int .i64 (rightI made p)) := by
  refine Ret.mk (by simp [refsL, refs, p.norefs]) rfl ?_
  have hl1 := hs.2.2.1
  have e1 := rfield_c made p hs
  unfold rightI
  rw [C_fn rfl Go.Proofs.Tryz.func12 rfl (by kernel_rfl) (m := 45) rfl]; simp only [sims, core, pe, Nat.reduceAdd, Int.reduceBEq, Int.reduceBNe, Int.reduceLT, Int.reduceLE, Go.Proofs.Tryz.f12, fx_12, ty, e1 _]
  cases h1 : progB made p
  · simp only [sims, core, pe, Nat.reduceAdd, Int.reduceBEq, Int.reduceBNe, Int.reduceLT, Int.reduceLE, fx_12, ty, h1]
  simp only [sims, core, pe, Nat.reduceAdd, Int.reduceBEq, Int.reduceBNe, Int.reduceLT, Int.reduceLE, fx_12, ty, h1]
  generalize hb : codeB PP cmp0 C lpC _ = f; generalize hl : lpC f _ = r
  obtain ⟨ex, s', rfl, h2⟩ := lpC_at (α := Nat) hl [4, 6, 7, 8, 13, 14, 15, 16, 17, 18, 19, 20, 21, 22, 23, 24, 25, 26, 27, 28, 29, 30, 31, 32, 33, 34, 35, 36, 37, 38, 39, 40, 41, 42, 43, 44, 45, 46] (fun i => [(5, .int .i64 i)]) (fun i => i ≤ p.nodes.length) (fun i => p.nodes.length - i) (fun i => (p.nodes.drop i).any greatB)
    (AnyPost 0 [4, 5, 6, 7, 8, 13, 14, 15, 16, 17, 18, 19, 20, 21, 22, 23, 24, 25, 26, 27, 28, 29, 30, 31, 32, 33, 34, 35, 36, 37, 38, 39, 40, 41, 42, 43, 44, 45, 46] [5, 6, 7, 8, 13, 14, 15, 16, 17, 18, 19, 20, 21, 22, 23, 24, 25, 26, 27, 28, 29, 30, 31, 32, 33, 34, 35, 36, 37, 38, 39, 40, 41, 42, 43, 44, 45, 46] 4 (.int .i64 9)) 0 (Nat.zero_le _) (At.of [] (by simp only [ats, Int.natCast_zero]) (by simp only [List.append_nil])) (by
      intro i j H d hi
      clear hl; subst hb
      by_cases hlt : i < p.nodes.length
      · have e2 : ((i : Int) < (p.nodes.length : Int)) := by omega
        obtain ⟨x, hxx⟩ : ∃ y, y = p.nodes[i] := ⟨_, rfl⟩
        have e3 : (p.nodes.map PNode.cells)[i]? = some x.cells := by simp [hlt, hxx]
        have hm : x ∈ p.nodes := by rw [hxx]; exact List.getElem_mem hlt
        have hle := hx x hm
        have e4 := rexprs_c x (hs.2.2.2 x hm) hle
        have hsm := PNode.exprs_small (hs.2.2.2 x hm)
        simp only [sims, core, pe, Nat.reduceAdd, Int.reduceBEq, Int.reduceBNe, Int.reduceLT, Int.reduceLE, fx_12, ty, e2, e3, e4 _]
        generalize hb2 : codeB PP cmp0 C lpC _ = f2; generalize hl2 : lpC f2 _ = r2
        obtain ⟨ex2, s2, rfl, h3⟩ := lpC_at (α := Nat × Int) hl2 [4, 26, 27, 28, 29, 30, 31, 32, 33, 34, 35, 36, 37, 38, 39, 40, 41, 42, 43, 44] (fun a => [(8, .int .i64 a.1), (7, .int .i64 a.2)]) (fun a => a.1 ≤ x.exprs.length) (fun a => x.exprs.length - a.1) (fun a => innR a.2 (x.exprs.drop a.1))
          (fun ts H r ex s => (∃ z, r = some z ∧ ex = .exit 2 ∧ At [4, 8, 26, 27, 28, 29, 30, 31, 32, 33, 34, 35, 36, 37, 38, 39, 40, 41, 42, 43, 44] ts H [(7, .int .i64 z)] s) ∨ (r = none ∧ ex = .ret ∧ At [7, 8, 26, 27, 28, 29, 30, 31, 32, 33, 34, 35, 36, 37, 38, 39, 40, 41, 42, 43, 44] ts H [(4, .int .i64 9)] s)) (0, 0) (Nat.zero_le _) (At.of [] (by simp only [ats, Int.natCast_zero]) (by simp only [List.append_nil])) (by
            rintro ⟨k, a⟩ j2 H2 d2 hk
            clear hl2; subst hb2
            simp only at hk
            by_cases hlk : k < x.exprs.length
            · have g1 : ((k : Int) < (x.exprs.length : Int)) := by omega
              have g3 := kids_get x.exprs k hlk
              have hmk := List.getElem_mem hlk
              have c1 := rsize_c x.exprs[k] (hsm _ hmk)
              have c2 := rdepth_c x.exprs[k] (hsm _ hmk)
              simp only [sims, core, pe, Nat.reduceAdd, Int.reduceBEq, Int.reduceBNe, Int.reduceLT, Int.reduceLE, fx_12, ty, g1, g3, c1 _, c2 _]
              cases hd : decide (40 < x.exprs[k].depth)
              · simp only [sims, core, pe, Nat.reduceAdd, Int.reduceBEq, Int.reduceBNe, Int.reduceLT, Int.reduceLE, fx_12, ty, hd, wrap_nat (show k ≤ lenTop by omega)]
                exact .inl ⟨(k + 1, wadd a x.exprs[k].size), _, rfl, hlk, At.of _ (by simp only [ats, Int.natCast_zero, wadd]) (by simp only [List.cons_append, List.append_assoc, List.nil_append]; rfl), by simp only []; omega, by simp only [List.drop_eq_getElem_cons hlk, innR, deepB, List.any_cons, hd, Bool.false_or, szs, List.foldl_cons]; rfl⟩
              · simp only [sims, core, pe, Nat.reduceAdd, Int.reduceBEq, Int.reduceBNe, Int.reduceLT, Int.reduceLE, fx_12, ty, hd]
                exact .inr ⟨_, _, rfl, by simp, .inr ⟨by simp only [List.drop_eq_getElem_cons hlk, innR, deepB, List.any_cons, hd, Bool.true_or, if_true], rfl, At.of _ (by simp only [ats, Int.natCast_zero]) (by simp only [List.cons_append, List.append_assoc, List.nil_append]; rfl)⟩⟩
            · have g1 : ¬ ((k : Int) < (x.exprs.length : Int)) := by omega
              simp only [sims, core, pe, Nat.reduceAdd, Int.reduceBEq, Int.reduceBNe, Int.reduceLT, Int.reduceLE, fx_12, ty, g1]
              exact .inr ⟨_, _, rfl, by simp, .inl ⟨a, by simp only []; rw [List.drop_eq_nil_of_le (by omega)]; rfl, rfl, At.of _ (by simp only [ats, Int.natCast_zero]) (by simp only [List.cons_append, List.append_assoc, List.nil_append]; rfl)⟩⟩)
        simp only [List.drop_zero] at h3
        have hge := greatB_eq x
        rcases h3 with ⟨z, hr1, rfl, h3⟩ | ⟨hr1, rfl, h3⟩
        · obtain ⟨j2, H2, d2, rfl⟩ := h3.elim
          clear hl2
          rw [hr1] at hge
          simp only at hge
          simp only [sims, core, pe, Nat.reduceAdd, Int.reduceBEq, Int.reduceBNe, Int.reduceLT, Int.reduceLE, fx_12, ty]
          cases hz : decide (300 < z)
          · simp only [sims, core, pe, Nat.reduceAdd, Int.reduceBEq, Int.reduceBNe, Int.reduceLT, Int.reduceLE, fx_12, ty, hz, wrap_nat (show i ≤ lenTop by omega)]
            exact .inl ⟨i + 1, _, rfl, hlt, At.of _ (by simp only [ats, Int.natCast_zero]) (by simp only [List.cons_append, List.append_assoc, List.nil_append]; rfl), by simp only []; omega, by simp only [List.drop_eq_getElem_cons hlt, List.any_cons, ← hxx, hge, hz, Bool.false_or]⟩
          · simp only [sims, core, pe, Nat.reduceAdd, Int.reduceBEq, Int.reduceBNe, Int.reduceLT, Int.reduceLE, fx_12, ty, hz]
            exact .inr ⟨_, _, rfl, by simp, .inr ⟨by simp only [List.drop_eq_getElem_cons hlt, List.any_cons, ← hxx, hge, hz, Bool.true_or], rfl, At.of _ (by simp only [ats, Int.natCast_zero]) (by simp only [List.cons_append, List.append_assoc, List.nil_append]; rfl)⟩⟩
        · obtain ⟨j2, H2, d2, rfl⟩ := h3.elim
          clear hl2
          rw [hr1] at hge
          simp only at hge
          simp only [sims, core, pe, Nat.reduceAdd, Int.reduceBEq, Int.reduceBNe, Int.reduceLT, Int.reduceLE, fx_12, ty]
          exact .inr ⟨_, _, rfl, by simp, .inr ⟨by simp only [List.drop_eq_getElem_cons hlt, List.any_cons, ← hxx, hge, Bool.true_or], rfl, At.of _ (by simp only [ats, Int.natCast_zero]) (by simp only [List.cons_append, List.append_assoc, List.nil_append]; rfl)⟩⟩
      · have e2 : ¬ ((i : Int) < (p.nodes.length : Int)) := by omega
        simp only [sims, core, pe, Nat.reduceAdd, Int.reduceBEq, Int.reduceBNe, Int.reduceLT, Int.reduceLE, fx_12, ty, e2]
        exact .inr ⟨_, _, rfl, by simp, .inl ⟨by simp only []; rw [List.drop_eq_nil_of_le (by omega)]; rfl, rfl, At.of _ (by simp only [ats, Int.natCast_zero]) (by simp only [List.cons_append, List.append_assoc, List.nil_append]; rfl)⟩⟩)
  rw [List.drop_zero] at h2
  rcases h2 with ⟨hr1, rfl, h2⟩ | ⟨hr1, rfl, h2⟩
  · obtain ⟨j, H, d, rfl⟩ := h2.elim
    clear hl
    simp only [sims, core, pe, Nat.reduceAdd, Int.reduceBEq, Int.reduceBNe, Int.reduceLT, Int.reduceLE, fx_12, hr1]
  · obtain ⟨j, H, d, rfl⟩ := h2.elim
    clear hl
    simp only [sims, core, pe, Nat.reduceAdd, Int.reduceBEq, Int.reduceBNe, Int.reduceLT, Int.reduceLE, fx_12, hr1]
theorem treeRight_c (hlive : Ret C 10 [] (.bool true)) (p : PProg) (hs : p.Small) (hr : p.Rng) (hx : ∀ n ∈ p.nodes, n.exprs.length ≤ lenTop) : C 3 [.agg p.cells] [] = some (.ret (.bool true) .same) := by
  have a1 := right_c true p hs hr
  have a2 := right_c false p hs hr
  have b1 := rright_c true p hs hx
  have b2 := rright_c false p hs hx
  rw [C_fn rfl Go.Proofs.Tryz.func3 rfl (by kernel_rfl) (m := 17) rfl]; simp only [sims, core, pe, Nat.reduceAdd, Int.reduceBEq, Int.reduceBNe, Int.reduceLT, Int.reduceLE, Go.Proofs.Tryz.f3, fx_3, ty, hlive _, a1 _, a2 _, b1 _, b2 _]
end Go.Ab
