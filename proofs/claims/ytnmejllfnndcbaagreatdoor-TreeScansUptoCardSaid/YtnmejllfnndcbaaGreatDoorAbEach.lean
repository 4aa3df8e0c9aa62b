/- All expressions of a node: sizes and depths. -/
import Derived.Test.YtnmejllfnndcbaaGreatDoorAbBox
import Derived.Test.YtnmejllfnndcbaaGreatDoorAbExprs
set_option linter.unusedSimpArgs false
set_option linter.unusedVariables false
namespace Go.Ab
open Go Go.Ab.Tab
set_option maxRecDepth 100000
set_option maxHeartbeats 4000000
set_option linter.unusedSimpArgs false
theorem PItem.get_names (x : PItem) : x.cells[0]? = some (encStrs x.eq.names) := by unfold PItem.cells PEq.cells; rfl
theorem PItem.sub_e (x : PItem) : List.take 5 (List.drop 1 x.cells) = x.eq.e.cells := by
  unfold PItem.cells PEq.cells; exact x.eq.e.takeA _
theorem stay_int (n : Nat) (h : AHeap) (b : Nat) (k : IntKind) (z : Int) (hb : h[b]? = some (.box [.int k z])) : Stays n h b := ⟨_, hb, fun mv => by
  unfold leaveBlk; rw [hb]; rfl⟩
theorem stay2 {h : AHeap} (h0 : Stays 2 h 0) (h1 : Stays 2 h 1) : ∀ b, b < 2 → Stays 2 h b := fun b hb => by
  rcases b with _ | _ | b
  · exact h0
  · exact h1
  · omega
theorem right1_c (x : PExpr) (hx : x.Small) (a b : Int) : Gives C 31 [.agg x.cells, .ptr 0 0, .ptr 1 0] [.box [.int .i64 a], .box [.int .i64 b]] (.tuple []) [.box [.int .i64 (wadd a x.size)], .box [.int .i64 (imax b x.depth)]] := by
  have c17 := size_c x hx
  have c18 := depth_c x hx
  refine C_gives rfl Go.Proofs.Tryz.func31 rfl (by kernel_rfl) (m := 9) rfl ?_; simp only [sims, core, pe, Nat.reduceAdd, Int.reduceBEq, Int.reduceBNe, Int.reduceLT, Int.reduceLE, Go.Proofs.Tryz.f31, fx_31, c17 _, c18 _]
  exact fin_stays (.inr rfl) rfl rfl rfl (stay2 (stay_int _ _ _ _ _ rfl) (stay_int _ _ _ _ _ rfl)) rfl
def PState.exprs (s : PState) : List PExpr := s.eqs.map (·.e) ++ s.ways.map (·.cond)
def PItem.exprs (x : PItem) : List PExpr := (if x.states.length = 0 then [x.eq.e] else []) ++ x.states.flatMap PState.exprs
def PNode.exprs (n : PNode) : List PExpr := n.items.flatMap PItem.exprs
def accE (p : Int × Int) (l : List PExpr) : Int × Int := l.foldl (fun p x => (wadd p.1 x.size, imax p.2 x.depth)) p
theorem accE_nil (p : Int × Int) : accE p [] = p := rfl
theorem accE_cons (p : Int × Int) (x : PExpr) (l : List PExpr) : accE p (x :: l) = accE (wadd p.1 x.size, imax p.2 x.depth) l := rfl
theorem accE_app (p : Int × Int) (l m : List PExpr) : accE p (l ++ m) = accE (accE p l) m := by simp [accE, List.foldl_append]
abbrev twoI (p : Int × Int) : AHeap := [.box [.int .i64 p.1], .box [.int .i64 p.2]]
theorem each_c (n : PNode) (hn : n.Small) (p : Int × Int) : Gives C 30 [.agg n.cells, .func 31 [] [.ptr 0 0, .ptr 1 0]] (twoI p) (.tuple []) (twoI (accE p n.exprs)) := by
  have hdo : ∀ (x : PExpr), x.Small → ∀ (p : Int × Int) (H : AHeap), GivesA C (.box [.int .i64 p.1] :: .box [.int .i64 p.2] :: H) 31 [.agg x.cells, .ptr 0 0, .ptr 1 0] (.tuple []) (.box [.int .i64 (wadd p.1 x.size)] :: .box [.int .i64 (imax p.2 x.depth)] :: H) := by
    intro x hx p H
    have := callA_two keepC (H := .box [.int .i64 p.1] :: .box [.int .i64 p.2] :: H) (f := 31) (args := [.agg x.cells, .ptr 0 0, .ptr 1 0]) (b1 := 0) (b2 := 1) (by simp [refsL, refs, x.norefs]) (by decide) rfl rfl rfl rfl rfl rfl (by
      have e : renL (fun x => [0, 1].idxOf x) [.agg x.cells, .ptr 0 0, .ptr 1 0] = [.agg x.cells, .ptr 0 0, .ptr 1 0] := by
        simp only [renL, ren, ren_pure x.norefs]; rfl
      rw [e]
      exact right1_c x hx p.1 p.2) rfl
    exact this
  refine C_gives rfl Go.Proofs.Tryz.func30 rfl (by kernel_rfl) (m := 59) rfl ?_; simp only [sims, core, pe, Nat.reduceAdd, Int.reduceBEq, Int.reduceBNe, Int.reduceLT, Int.reduceLE, Go.Proofs.Tryz.f30, fx_30, ty]
  generalize hb : codeB PP cmp0 C lpC _ = f; generalize hl : lpC f _ = r
  obtain ⟨ex, s, rfl, rfl, h2⟩ := lpC_atH (α := Nat × Int × Int) hl [5, 7, 9, 11, 16, 17, 18, 19, 20, 21, 22, 23, 24, 25, 26, 27, 28, 29, 30, 31, 32, 33, 34, 35, 36, 37, 38, 39, 40, 41, 42, 43, 44, 45, 46, 47, 48, 49, 50, 51, 52, 53, 54, 55, 56, 57, 58, 59, 60] (fun a => [(15, .int .i64 a.1)]) (fun a => .box [.int .i64 a.2.1] :: .box [.int .i64 a.2.2] :: [.box n.cells]) (fun a => a.1 ≤ n.items.length) (fun a => n.items.length - a.1) (fun a => accE a.2 ((n.items.drop a.1).flatMap PItem.exprs))
    (fun ts r ex s => ex = .exit 0 ∧ At [5, 7, 9, 11, 15, 16, 17, 18, 19, 20, 21, 22, 23, 24, 25, 26, 27, 28, 29, 30, 31, 32, 33, 34, 35, 36, 37, 38, 39, 40, 41, 42, 43, 44, 45, 46, 47, 48, 49, 50, 51, 52, 53, 54, 55, 56, 57, 58, 59, 60] ts (.box [.int .i64 r.1] :: .box [.int .i64 r.2] :: [.box n.cells]) [] s) (0, p) (Nat.zero_le _) (At.of [] (by simp only [ats, Int.natCast_zero]) (by simp only [List.append_nil])) (by
      rintro ⟨i, p⟩ j H d hi
      clear hl; subst hb
      simp only at hi
      by_cases hlt : i < n.items.length
      · have e1 : ((i : Int) < (n.items.length : Int)) := by omega
        obtain ⟨x, hx⟩ : ∃ yy, yy = n.items[i] := ⟨_, rfl⟩
        have e3 : (n.items.map PItem.cells)[i]? = some (PItem.cells x) := by simp [hlt, hx]
        have hm : x ∈ n.items := by rw [hx]; exact List.getElem_mem hlt
        have hl0 := hn.2.2.2.2.1
        have hxs := hn.2.2.2.2.2 x hm
        obtain ⟨E0, hE0⟩ := Classical.skolem.1 (hdo x.eq.e hxs.1.2 p)
        simp only [sims, core, pe, Nat.reduceAdd, Int.reduceBEq, Int.reduceBNe, Int.reduceLT, Int.reduceLE, effs, fx_30, ty, e1, e3]
        cases hz : ((x.states.length : Int) == 0)
        · have hz' : ¬ x.states.length = 0 := fun h => by simp [h] at hz
          simp only [sims, core, pe, Nat.reduceAdd, Int.reduceBEq, Int.reduceBNe, Int.reduceLT, Int.reduceLE, effs, fx_30, ty, hz]
          generalize hba : codeB PP cmp0 C lpC _ = fa; generalize hla : lpC fa _ = ra
          obtain ⟨exa, sa, rfl, rfl, h2a⟩ := lpC_atH (α := Nat × Int × Int) hla [7, 9, 11, 32, 33, 34, 35, 36, 37, 38, 39, 40, 41, 42, 43, 44, 45, 46, 47, 48, 49, 50, 51, 52, 53, 54, 55, 56, 57, 58, 59] (fun a => [(31, .int .i64 a.1)]) (fun a => .box [.int .i64 a.2.1] :: .box [.int .i64 a.2.2] :: .box n.cells :: (H ++ [.box x.cells])) (fun a => a.1 ≤ x.states.length) (fun a => x.states.length - a.1) (fun a => accE a.2 ((x.states.drop a.1).flatMap PState.exprs))
            (fun ts r ex s => ex = .exit 2 ∧ At [7, 9, 11, 31, 32, 33, 34, 35, 36, 37, 38, 39, 40, 41, 42, 43, 44, 45, 46, 47, 48, 49, 50, 51, 52, 53, 54, 55, 56, 57, 58, 59] ts (.box [.int .i64 r.1] :: .box [.int .i64 r.2] :: .box n.cells :: (H ++ [.box x.cells])) [] s) (0, p) (Nat.zero_le _) (At.of [] (by simp only [ats, Int.natCast_zero]) (by simp only [List.append_nil])) (by
              rintro ⟨ia, pa⟩ ja Ha da hia
              clear hla; subst hba
              simp only at hia
              by_cases hlta : ia < x.states.length
              · have e1a : ((ia : Int) < (x.states.length : Int)) := by omega
                obtain ⟨xa, hxa⟩ : ∃ yy, yy = x.states[ia] := ⟨_, rfl⟩
                have e3a : (x.states.map PState.cells)[ia]? = some (PState.cells xa) := by simp [hlta, hxa]
                have hma : xa ∈ x.states := by rw [hxa]; exact List.getElem_mem hlta
                have hsa := hxs.2.2 xa hma
                have hl1 := hxs.2.1
                have hl2 := hsa.2.1
                have hl3 := hsa.2.2.2.1
                simp only [sims, core, pe, Nat.reduceAdd, Int.reduceBEq, Int.reduceBNe, Int.reduceLT, Int.reduceLE, effs, fx_30, ty, e1a, e3a]
                generalize hbb : codeB PP cmp0 C lpC _ = fb; generalize hlb : lpC fb _ = rb
                obtain ⟨exb, sb, rfl, rfl, h2b⟩ := lpC_atH (α := Nat × Int × Int) hlb [9, 39, 40, 41, 42, 43, 44, 45, 46] (fun a => [(38, .int .i64 a.1)]) (fun a => .box [.int .i64 a.2.1] :: .box [.int .i64 a.2.2] :: .box n.cells :: (H ++ .box x.cells :: (Ha ++ [.box xa.cells]))) (fun a => a.1 ≤ xa.eqs.length) (fun a => xa.eqs.length - a.1) (fun a => accE a.2 ((xa.eqs.drop a.1).map (·.e)))
                  (fun ts r ex s => ex = .exit 4 ∧ At [9, 38, 39, 40, 41, 42, 43, 44, 45, 46] ts (.box [.int .i64 r.1] :: .box [.int .i64 r.2] :: .box n.cells :: (H ++ .box x.cells :: (Ha ++ [.box xa.cells]))) [] s) (0, pa) (Nat.zero_le _) (At.of [] (by simp only [ats, Int.natCast_zero]) (by simp only [List.append_nil])) (by
                    rintro ⟨ib, pb⟩ jb Hb db hib
                    clear hlb; subst hbb
                    simp only at hib
                    by_cases hltb : ib < xa.eqs.length
                    · have e1b : ((ib : Int) < (xa.eqs.length : Int)) := by omega
                      obtain ⟨xb, hxb⟩ : ∃ yy, yy = xa.eqs[ib] := ⟨_, rfl⟩
                      have e3b : (xa.eqs.map PEq.cells)[ib]? = some (PEq.cells xb) := by simp [hltb, hxb]
                      have hmb : xb ∈ xa.eqs := by rw [hxb]; exact List.getElem_mem hltb
                      obtain ⟨Eb, hEb⟩ := Classical.skolem.1 (hdo xb.e ((fun (y : PEq) hy => (hsa.2.2.1 y hy).2) xb hmb) pb)
                      simp only [sims, core, pe, Nat.reduceAdd, Int.reduceBEq, Int.reduceBNe, Int.reduceLT, Int.reduceLE, effs, fx_30, ty, e1b, e3b, (hEb _).1, (hEb _).2, wrap_nat (show ib ≤ lenTop by omega)]
                      exact .inl ⟨(ib + 1, wadd pb.1 xb.e.size, imax pb.2 xb.e.depth), _, rfl, hltb, At.of _ (by simp only [ats, Int.natCast_zero]) (by simp only [List.cons_append, List.append_assoc, List.nil_append]; rfl), by simp only []; omega, by simp only [List.drop_eq_getElem_cons hltb, List.map_cons, ← hxb, accE_cons]⟩
                    · have e1b : ¬ ((ib : Int) < (xa.eqs.length : Int)) := by omega
                      simp only [sims, core, pe, Nat.reduceAdd, Int.reduceBEq, Int.reduceBNe, Int.reduceLT, Int.reduceLE, fx_30, e1b]
                      refine .inr ⟨_, _, rfl, by simp, rfl, ?_⟩
                      simp only [List.drop_eq_nil_of_le (Nat.le_of_not_lt hltb), List.map_nil, List.flatMap_nil, accE_nil]
                      exact At.of _ (by simp only [ats, Int.natCast_zero]) (by simp only [List.cons_append, List.append_assoc, List.nil_append]; rfl))
                obtain ⟨jb', Hb', db', rfl⟩ := h2b.elim
                clear hlb
                simp only [sims, core, pe, Nat.reduceAdd, Int.reduceBEq, Int.reduceBNe, Int.reduceLT, Int.reduceLE, effs, fx_30, ty]
                generalize hbc : codeB PP cmp0 C lpC _ = fc; generalize hlc : lpC fc _ = rc
                obtain ⟨exc, sc, rfl, rfl, h2c⟩ := lpC_atH (α := Nat × Int × Int) hlc [11, 51, 52, 53, 54, 55, 56, 57, 58] (fun a => [(50, .int .i64 a.1)]) (fun a => .box [.int .i64 a.2.1] :: .box [.int .i64 a.2.2] :: .box n.cells :: (H ++ .box x.cells :: (Ha ++ .box xa.cells :: Hb'))) (fun a => a.1 ≤ xa.ways.length) (fun a => xa.ways.length - a.1) (fun a => accE a.2 ((xa.ways.drop a.1).map (·.cond)))
                  (fun ts r ex s => ex = .exit 6 ∧ At [11, 50, 51, 52, 53, 54, 55, 56, 57, 58] ts (.box [.int .i64 r.1] :: .box [.int .i64 r.2] :: .box n.cells :: (H ++ .box x.cells :: (Ha ++ .box xa.cells :: Hb'))) [] s) (0, (accE pa (xa.eqs.map (·.e)))) (Nat.zero_le _) (At.of [] (by simp only [ats, Int.natCast_zero]) (by simp only [List.append_nil])) (by
                    rintro ⟨ic, pc⟩ jc Hc dc hic
                    clear hlc; subst hbc
                    simp only at hic
                    by_cases hltc : ic < xa.ways.length
                    · have e1c : ((ic : Int) < (xa.ways.length : Int)) := by omega
                      obtain ⟨xc, hxc⟩ : ∃ yy, yy = xa.ways[ic] := ⟨_, rfl⟩
                      have e3c : (xa.ways.map PWay.cells)[ic]? = some (PWay.cells xc) := by simp [hltc, hxc]
                      have hmc : xc ∈ xa.ways := by rw [hxc]; exact List.getElem_mem hltc
                      obtain ⟨Ec, hEc⟩ := Classical.skolem.1 (hdo xc.cond ((fun (y : PWay) hy => (hsa.2.2.2.2 y hy).1) xc hmc) pc)
                      simp only [sims, core, pe, Nat.reduceAdd, Int.reduceBEq, Int.reduceBNe, Int.reduceLT, Int.reduceLE, effs, fx_30, ty, e1c, e3c, (hEc _).1, (hEc _).2, wrap_nat (show ic ≤ lenTop by omega)]
                      exact .inl ⟨(ic + 1, wadd pc.1 xc.cond.size, imax pc.2 xc.cond.depth), _, rfl, hltc, At.of _ (by simp only [ats, Int.natCast_zero]) (by simp only [List.cons_append, List.append_assoc, List.nil_append]; rfl), by simp only []; omega, by simp only [List.drop_eq_getElem_cons hltc, List.map_cons, ← hxc, accE_cons]⟩
                    · have e1c : ¬ ((ic : Int) < (xa.ways.length : Int)) := by omega
                      simp only [sims, core, pe, Nat.reduceAdd, Int.reduceBEq, Int.reduceBNe, Int.reduceLT, Int.reduceLE, fx_30, e1c]
                      refine .inr ⟨_, _, rfl, by simp, rfl, ?_⟩
                      simp only [List.drop_eq_nil_of_le (Nat.le_of_not_lt hltc), List.map_nil, List.flatMap_nil, accE_nil]
                      exact At.of _ (by simp only [ats, Int.natCast_zero]) (by simp only [List.cons_append, List.append_assoc, List.nil_append]; rfl))
                obtain ⟨jc', Hc', dc', rfl⟩ := h2c.elim
                clear hlc
                simp only [sims, core, pe, Nat.reduceAdd, Int.reduceBEq, Int.reduceBNe, Int.reduceLT, Int.reduceLE, fx_30, ty, wrap_nat (show ia ≤ lenTop by omega)]
                exact .inl ⟨(ia + 1, (accE (accE pa (xa.eqs.map (·.e))) (xa.ways.map (·.cond)))), _, rfl, hlta, At.of _ (by simp only [ats, Int.natCast_zero]) (by simp only [List.cons_append, List.append_assoc, List.nil_append]; rfl), by simp only []; omega, by simp only [List.drop_eq_getElem_cons hlta, List.flatMap_cons, ← hxa, PState.exprs, accE_app, List.drop_zero]⟩
              · have e1a : ¬ ((ia : Int) < (x.states.length : Int)) := by omega
                simp only [sims, core, pe, Nat.reduceAdd, Int.reduceBEq, Int.reduceBNe, Int.reduceLT, Int.reduceLE, fx_30, e1a]
                refine .inr ⟨_, _, rfl, by simp, rfl, ?_⟩
                simp only [List.drop_eq_nil_of_le (Nat.le_of_not_lt hlta), List.map_nil, List.flatMap_nil, accE_nil]
                exact At.of _ (by simp only [ats, Int.natCast_zero]) (by simp only [List.cons_append, List.append_assoc, List.nil_append]; rfl))
          obtain ⟨ja', Ha', da', rfl⟩ := h2a.elim
          clear hla
          simp only [sims, core, pe, Nat.reduceAdd, Int.reduceBEq, Int.reduceBNe, Int.reduceLT, Int.reduceLE, effs, fx_30, ty, wrap_nat (show i ≤ lenTop by omega)]
          exact .inl ⟨(i + 1, (accE p (x.states.flatMap PState.exprs))), _, rfl, hlt, At.of _ (by simp only [ats, Int.natCast_zero]) (by simp only [List.cons_append, List.append_assoc, List.nil_append]; rfl), by simp only []; omega, by simp only [List.drop_eq_getElem_cons hlt, List.flatMap_cons, ← hx, PItem.exprs, if_neg hz', accE_app, accE_cons, accE_nil, List.drop_zero, List.nil_append, List.singleton_append]⟩
        · have hz' : x.states.length = 0 := by simpa using hz
          simp only [sims, core, pe, Nat.reduceAdd, Int.reduceBEq, Int.reduceBNe, Int.reduceLT, Int.reduceLE, effs, fx_30, ty, hz, PItem.sub_e, (hE0 _).1, (hE0 _).2]
          generalize hba : codeB PP cmp0 C lpC _ = fa; generalize hla : lpC fa _ = ra
          obtain ⟨exa, sa, rfl, rfl, h2a⟩ := lpC_atH (α := Nat × Int × Int) hla [7, 9, 11, 32, 33, 34, 35, 36, 37, 38, 39, 40, 41, 42, 43, 44, 45, 46, 47, 48, 49, 50, 51, 52, 53, 54, 55, 56, 57, 58, 59] (fun a => [(31, .int .i64 a.1)]) (fun a => .box [.int .i64 a.2.1] :: .box [.int .i64 a.2.2] :: .box n.cells :: (H ++ [.box x.cells])) (fun a => a.1 ≤ x.states.length) (fun a => x.states.length - a.1) (fun a => accE a.2 ((x.states.drop a.1).flatMap PState.exprs))
            (fun ts r ex s => ex = .exit 2 ∧ At [7, 9, 11, 31, 32, 33, 34, 35, 36, 37, 38, 39, 40, 41, 42, 43, 44, 45, 46, 47, 48, 49, 50, 51, 52, 53, 54, 55, 56, 57, 58, 59] ts (.box [.int .i64 r.1] :: .box [.int .i64 r.2] :: .box n.cells :: (H ++ [.box x.cells])) [] s) (0, (wadd p.1 x.eq.e.size, imax p.2 x.eq.e.depth)) (Nat.zero_le _) (At.of [] (by simp only [ats, Int.natCast_zero]) (by simp only [List.append_nil])) (by
              rintro ⟨ia, pa⟩ ja Ha da hia
              clear hla; subst hba
              simp only at hia
              by_cases hlta : ia < x.states.length
              · have e1a : ((ia : Int) < (x.states.length : Int)) := by omega
                obtain ⟨xa, hxa⟩ : ∃ yy, yy = x.states[ia] := ⟨_, rfl⟩
                have e3a : (x.states.map PState.cells)[ia]? = some (PState.cells xa) := by simp [hlta, hxa]
                have hma : xa ∈ x.states := by rw [hxa]; exact List.getElem_mem hlta
                have hsa := hxs.2.2 xa hma
                have hl1 := hxs.2.1
                have hl2 := hsa.2.1
                have hl3 := hsa.2.2.2.1
                simp only [sims, core, pe, Nat.reduceAdd, Int.reduceBEq, Int.reduceBNe, Int.reduceLT, Int.reduceLE, effs, fx_30, ty, e1a, e3a]
                generalize hbb : codeB PP cmp0 C lpC _ = fb; generalize hlb : lpC fb _ = rb
                obtain ⟨exb, sb, rfl, rfl, h2b⟩ := lpC_atH (α := Nat × Int × Int) hlb [9, 39, 40, 41, 42, 43, 44, 45, 46] (fun a => [(38, .int .i64 a.1)]) (fun a => .box [.int .i64 a.2.1] :: .box [.int .i64 a.2.2] :: .box n.cells :: (H ++ .box x.cells :: (Ha ++ [.box xa.cells]))) (fun a => a.1 ≤ xa.eqs.length) (fun a => xa.eqs.length - a.1) (fun a => accE a.2 ((xa.eqs.drop a.1).map (·.e)))
                  (fun ts r ex s => ex = .exit 4 ∧ At [9, 38, 39, 40, 41, 42, 43, 44, 45, 46] ts (.box [.int .i64 r.1] :: .box [.int .i64 r.2] :: .box n.cells :: (H ++ .box x.cells :: (Ha ++ [.box xa.cells]))) [] s) (0, pa) (Nat.zero_le _) (At.of [] (by simp only [ats, Int.natCast_zero]) (by simp only [List.append_nil])) (by
                    rintro ⟨ib, pb⟩ jb Hb db hib
                    clear hlb; subst hbb
                    simp only at hib
                    by_cases hltb : ib < xa.eqs.length
                    · have e1b : ((ib : Int) < (xa.eqs.length : Int)) := by omega
                      obtain ⟨xb, hxb⟩ : ∃ yy, yy = xa.eqs[ib] := ⟨_, rfl⟩
                      have e3b : (xa.eqs.map PEq.cells)[ib]? = some (PEq.cells xb) := by simp [hltb, hxb]
                      have hmb : xb ∈ xa.eqs := by rw [hxb]; exact List.getElem_mem hltb
                      obtain ⟨Eb, hEb⟩ := Classical.skolem.1 (hdo xb.e ((fun (y : PEq) hy => (hsa.2.2.1 y hy).2) xb hmb) pb)
                      simp only [sims, core, pe, Nat.reduceAdd, Int.reduceBEq, Int.reduceBNe, Int.reduceLT, Int.reduceLE, effs, fx_30, ty, e1b, e3b, (hEb _).1, (hEb _).2, wrap_nat (show ib ≤ lenTop by omega)]
                      exact .inl ⟨(ib + 1, wadd pb.1 xb.e.size, imax pb.2 xb.e.depth), _, rfl, hltb, At.of _ (by simp only [ats, Int.natCast_zero]) (by simp only [List.cons_append, List.append_assoc, List.nil_append]; rfl), by simp only []; omega, by simp only [List.drop_eq_getElem_cons hltb, List.map_cons, ← hxb, accE_cons]⟩
                    · have e1b : ¬ ((ib : Int) < (xa.eqs.length : Int)) := by omega
                      simp only [sims, core, pe, Nat.reduceAdd, Int.reduceBEq, Int.reduceBNe, Int.reduceLT, Int.reduceLE, fx_30, e1b]
                      refine .inr ⟨_, _, rfl, by simp, rfl, ?_⟩
                      simp only [List.drop_eq_nil_of_le (Nat.le_of_not_lt hltb), List.map_nil, List.flatMap_nil, accE_nil]
                      exact At.of _ (by simp only [ats, Int.natCast_zero]) (by simp only [List.cons_append, List.append_assoc, List.nil_append]; rfl))
                obtain ⟨jb', Hb', db', rfl⟩ := h2b.elim
                clear hlb
                simp only [sims, core, pe, Nat.reduceAdd, Int.reduceBEq, Int.reduceBNe, Int.reduceLT, Int.reduceLE, effs, fx_30, ty]
                generalize hbc : codeB PP cmp0 C lpC _ = fc; generalize hlc : lpC fc _ = rc
                obtain ⟨exc, sc, rfl, rfl, h2c⟩ := lpC_atH (α := Nat × Int × Int) hlc [11, 51, 52, 53, 54, 55, 56, 57, 58] (fun a => [(50, .int .i64 a.1)]) (fun a => .box [.int .i64 a.2.1] :: .box [.int .i64 a.2.2] :: .box n.cells :: (H ++ .box x.cells :: (Ha ++ .box xa.cells :: Hb'))) (fun a => a.1 ≤ xa.ways.length) (fun a => xa.ways.length - a.1) (fun a => accE a.2 ((xa.ways.drop a.1).map (·.cond)))
                  (fun ts r ex s => ex = .exit 6 ∧ At [11, 50, 51, 52, 53, 54, 55, 56, 57, 58] ts (.box [.int .i64 r.1] :: .box [.int .i64 r.2] :: .box n.cells :: (H ++ .box x.cells :: (Ha ++ .box xa.cells :: Hb'))) [] s) (0, (accE pa (xa.eqs.map (·.e)))) (Nat.zero_le _) (At.of [] (by simp only [ats, Int.natCast_zero]) (by simp only [List.append_nil])) (by
                    rintro ⟨ic, pc⟩ jc Hc dc hic
                    clear hlc; subst hbc
                    simp only at hic
                    by_cases hltc : ic < xa.ways.length
                    · have e1c : ((ic : Int) < (xa.ways.length : Int)) := by omega
                      obtain ⟨xc, hxc⟩ : ∃ yy, yy = xa.ways[ic] := ⟨_, rfl⟩
                      have e3c : (xa.ways.map PWay.cells)[ic]? = some (PWay.cells xc) := by simp [hltc, hxc]
                      have hmc : xc ∈ xa.ways := by rw [hxc]; exact List.getElem_mem hltc
                      obtain ⟨Ec, hEc⟩ := Classical.skolem.1 (hdo xc.cond ((fun (y : PWay) hy => (hsa.2.2.2.2 y hy).1) xc hmc) pc)
                      simp only [sims, core, pe, Nat.reduceAdd, Int.reduceBEq, Int.reduceBNe, Int.reduceLT, Int.reduceLE, effs, fx_30, ty, e1c, e3c, (hEc _).1, (hEc _).2, wrap_nat (show ic ≤ lenTop by omega)]
                      exact .inl ⟨(ic + 1, wadd pc.1 xc.cond.size, imax pc.2 xc.cond.depth), _, rfl, hltc, At.of _ (by simp only [ats, Int.natCast_zero]) (by simp only [List.cons_append, List.append_assoc, List.nil_append]; rfl), by simp only []; omega, by simp only [List.drop_eq_getElem_cons hltc, List.map_cons, ← hxc, accE_cons]⟩
                    · have e1c : ¬ ((ic : Int) < (xa.ways.length : Int)) := by omega
                      simp only [sims, core, pe, Nat.reduceAdd, Int.reduceBEq, Int.reduceBNe, Int.reduceLT, Int.reduceLE, fx_30, e1c]
                      refine .inr ⟨_, _, rfl, by simp, rfl, ?_⟩
                      simp only [List.drop_eq_nil_of_le (Nat.le_of_not_lt hltc), List.map_nil, List.flatMap_nil, accE_nil]
                      exact At.of _ (by simp only [ats, Int.natCast_zero]) (by simp only [List.cons_append, List.append_assoc, List.nil_append]; rfl))
                obtain ⟨jc', Hc', dc', rfl⟩ := h2c.elim
                clear hlc
                simp only [sims, core, pe, Nat.reduceAdd, Int.reduceBEq, Int.reduceBNe, Int.reduceLT, Int.reduceLE, fx_30, ty, wrap_nat (show ia ≤ lenTop by omega)]
                exact .inl ⟨(ia + 1, (accE (accE pa (xa.eqs.map (·.e))) (xa.ways.map (·.cond)))), _, rfl, hlta, At.of _ (by simp only [ats, Int.natCast_zero]) (by simp only [List.cons_append, List.append_assoc, List.nil_append]; rfl), by simp only []; omega, by simp only [List.drop_eq_getElem_cons hlta, List.flatMap_cons, ← hxa, PState.exprs, accE_app, List.drop_zero]⟩
              · have e1a : ¬ ((ia : Int) < (x.states.length : Int)) := by omega
                simp only [sims, core, pe, Nat.reduceAdd, Int.reduceBEq, Int.reduceBNe, Int.reduceLT, Int.reduceLE, fx_30, e1a]
                refine .inr ⟨_, _, rfl, by simp, rfl, ?_⟩
                simp only [List.drop_eq_nil_of_le (Nat.le_of_not_lt hlta), List.map_nil, List.flatMap_nil, accE_nil]
                exact At.of _ (by simp only [ats, Int.natCast_zero]) (by simp only [List.cons_append, List.append_assoc, List.nil_append]; rfl))
          obtain ⟨ja', Ha', da', rfl⟩ := h2a.elim
          clear hla
          simp only [sims, core, pe, Nat.reduceAdd, Int.reduceBEq, Int.reduceBNe, Int.reduceLT, Int.reduceLE, effs, fx_30, ty, wrap_nat (show i ≤ lenTop by omega)]
          exact .inl ⟨(i + 1, (accE (wadd p.1 x.eq.e.size, imax p.2 x.eq.e.depth) (x.states.flatMap PState.exprs))), _, rfl, hlt, At.of _ (by simp only [ats, Int.natCast_zero]) (by simp only [List.cons_append, List.append_assoc, List.nil_append]; rfl), by simp only []; omega, by simp only [List.drop_eq_getElem_cons hlt, List.flatMap_cons, ← hx, PItem.exprs, if_pos hz', accE_app, accE_cons, accE_nil, List.drop_zero, List.nil_append, List.singleton_append]⟩
      · have e1 : ¬ ((i : Int) < (n.items.length : Int)) := by omega
        simp only [sims, core, pe, Nat.reduceAdd, Int.reduceBEq, Int.reduceBNe, Int.reduceLT, Int.reduceLE, fx_30, e1]
        refine .inr ⟨_, _, rfl, by simp, rfl, ?_⟩
        simp only [List.drop_eq_nil_of_le (Nat.le_of_not_lt hlt), List.map_nil, List.flatMap_nil, accE_nil]
        exact At.of _ (by simp only [ats, Int.natCast_zero]) (by simp only [List.cons_append, List.append_assoc, List.nil_append]; rfl))
  obtain ⟨j', H', d', rfl⟩ := h2.elim
  clear hl
  rw [List.drop_zero]
  simp only [sims, core, pe, Nat.reduceAdd, Int.reduceBEq, Int.reduceBNe, Int.reduceLT, Int.reduceLE, fx_30]
  exact fin_stays (.inr rfl) rfl rfl rfl (stay2 (stay_int _ _ _ _ _ rfl) (stay_int _ _ _ _ _ rfl)) rfl
end Go.Ab
