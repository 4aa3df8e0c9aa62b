/- The reference: all expressions of a node; which programs may be. -/
import Derived.Test.YtnmejllfnndcbaaGreatDoorAbEach
import Derived.Test.YtnmejllfnndcbaaGreatDoorAbBox
set_option linter.unusedSimpArgs false
set_option linter.unusedVariables false
namespace Go.Ab
open Go Go.Ab.Tab
set_option maxRecDepth 100000
set_option maxHeartbeats 4000000
set_option linter.unusedSimpArgs false
theorem cells36 (l : List PExpr) : ∀ c ∈ l.map PExpr.cells, c.length = 5 := by
  intro c hc
  obtain ⟨x, _, rfl⟩ := List.mem_map.1 hc
  exact x.len
theorem rexprs_c (n : PNode) (hs : n.Small) (hx : n.exprs.length ≤ lenTop) : Ret C 33 [.agg n.cells] (.slice (n.exprs.map PExpr.cells) .free) := by
  refine Ret.mk (by simp [refsL, refs, n.norefs]) rfl ?_
  have hl0 := hs.2.2.2.2.1
  rw [C_fn rfl Go.Proofs.Tryz.func33 rfl (by kernel_rfl) (m := 86) rfl]; simp only [sims, core, pe, Nat.reduceAdd, Int.reduceBEq, Int.reduceBNe, Int.reduceLT, Int.reduceLE, Go.Proofs.Tryz.f33, fx_33, ty]
  generalize hba : codeB PP cmp0 C lpC _ = fa; generalize hla : lpC fa _ = ra
  obtain ⟨exa, sa, rfl, rfl, va', h2a⟩ := lpC_inv (α := Nat × List PExpr × AVal) hla [5, 6, 7, 8, 9, 10, 11, 12, 13, 14, 15, 16, 17, 18, 19, 20, 21, 22, 23, 24, 25, 26, 27, 28, 29, 30, 31, 32, 33, 34, 35, 36, 37, 38, 39, 40, 41, 42, 43, 44, 45, 46, 47, 48, 49, 50, 51, 52, 53, 54, 55, 56, 57, 58, 59, 60, 61, 62, 63, 64, 65, 66, 67, 68, 69, 70, 71, 72, 73, 74, 75, 76, 77, 78, 79, 80, 81, 82, 83, 84, 85] (fun a => [(4, .int .i64 a.1), (3, a.2.2)]) (fun a h => a.1 ≤ n.items.length ∧ (∃ rest, a.2.1 ++ ((n.items.drop a.1).flatMap PItem.exprs) ++ rest = n.exprs) ∧ Grow h a.2.2 (a.2.1.map PExpr.cells) 36 ∧ h[0]? = some (.box n.cells)) (fun a => n.items.length - a.1) (fun a => a.2.1 ++ ((n.items.drop a.1).flatMap PItem.exprs))
    (fun ts r ex s => ex = .exit 0 ∧ ∃ v, OutT [4, 5, 6, 7, 8, 9, 10, 11, 12, 13, 14, 15, 16, 17, 18, 19, 20, 21, 22, 23, 24, 25, 26, 27, 28, 29, 30, 31, 32, 33, 34, 35, 36, 37, 38, 39, 40, 41, 42, 43, 44, 45, 46, 47, 48, 49, 50, 51, 52, 53, 54, 55, 56, 57, 58, 59, 60, 61, 62, 63, 64, 65, 66, 67, 68, 69, 70, 71, 72, 73, 74, 75, 76, 77, 78, 79, 80, 81, 82, 83, 84, 85] ts [(3, v)] (fun h => Grow h v (r.map PExpr.cells) 36 ∧ h[0]? = some (.box n.cells)) s) (0, [], (.slice [] .full)) ⟨Nat.zero_le _, ⟨[], by simp only [List.drop_zero, List.append_nil, List.nil_append]; rfl⟩, .inl ⟨rfl, rfl⟩, rfl⟩ (by simp only [AtT, ats, Int.natCast_zero]) (by
      rintro ⟨ia, oa, va⟩ ja ha da ⟨hia, ⟨za, hza⟩, hga, hqa⟩
      clear hla; subst hba
      simp only at hia hza hga
      have q0a := hqa
      by_cases hlta : ia < n.items.length
      · have e1a : ((ia : Int) < (n.items.length : Int)) := by omega
        obtain ⟨xa, hxa⟩ : ∃ yy, yy = n.items[ia] := ⟨_, rfl⟩
        have e3a : (n.items.map PItem.cells)[ia]? = some (PItem.cells xa) := by simp [hlta, hxa]
        have hma : xa ∈ n.items := by rw [hxa]; exact List.getElem_mem hlta
        have hxs := hs.2.2.2.2.2 xa hma
        have hl1 := hxs.2.1
        have q0x : (ha ++ [Blk.box xa.cells])[0]? = some (.box n.cells) := Boxes.app _ _ _ _ q0a
        simp only [sims, core, pe, Nat.reduceAdd, Int.reduceBEq, Int.reduceBNe, Int.reduceLT, Int.reduceLE, effs, fx_33, ty, e1a, e3a, q0a, q0x]
        cases hz : ((xa.states.length : Int) == 0)
        · have hz' : ¬ xa.states.length = 0 := fun h => by simp [h] at hz
          obtain ⟨k5, hk5⟩ : ∃ k, k = ha.length := ⟨_, rfl⟩
          simp only [sims, core, pe, Nat.reduceAdd, Int.reduceBEq, Int.reduceBNe, Int.reduceLT, Int.reduceLE, effs, fx_33, ty, hz, ← hk5]
          have q5x : (ha ++ [Blk.box xa.cells])[k5]? = some (.box xa.cells) := by rw [hk5]; exact heap_at0 _ _
          generalize hbb : codeB PP cmp0 C lpC _ = fb; generalize hlb : lpC fb _ = rb
          obtain ⟨exb, sb, rfl, rfl, vb', h2b⟩ := lpC_inv (α := Nat × List PExpr × AVal) hlb [7, 8, 31, 32, 33, 34, 35, 36, 37, 38, 39, 40, 41, 42, 43, 44, 45, 46, 47, 48, 49, 50, 51, 52, 53, 54, 55, 56, 57, 58, 59, 60, 61, 62, 63, 64, 65, 66, 67, 68, 69, 70, 71, 72, 73, 74, 75, 76, 77, 78, 79, 80, 81, 82, 83, 84, 85] (fun a => [(6, .int .i64 a.1), (3, a.2.2)]) (fun a h => a.1 ≤ xa.states.length ∧ (∃ rest, a.2.1 ++ ((xa.states.drop a.1).flatMap PState.exprs) ++ rest = n.exprs) ∧ Grow h a.2.2 (a.2.1.map PExpr.cells) 36 ∧ h[0]? = some (.box n.cells) ∧ h[k5]? = some (.box xa.cells)) (fun a => xa.states.length - a.1) (fun a => a.2.1 ++ ((xa.states.drop a.1).flatMap PState.exprs))
            (fun ts r ex s => ex = .exit 2 ∧ ∃ v, OutT [6, 7, 8, 31, 32, 33, 34, 35, 36, 37, 38, 39, 40, 41, 42, 43, 44, 45, 46, 47, 48, 49, 50, 51, 52, 53, 54, 55, 56, 57, 58, 59, 60, 61, 62, 63, 64, 65, 66, 67, 68, 69, 70, 71, 72, 73, 74, 75, 76, 77, 78, 79, 80, 81, 82, 83, 84, 85] ts [(3, v)] (fun h => Grow h v (r.map PExpr.cells) 36 ∧ h[0]? = some (.box n.cells) ∧ h[k5]? = some (.box xa.cells)) s) (0, oa, va) ⟨Nat.zero_le _, ⟨(n.items.drop (ia + 1)).flatMap PItem.exprs ++ za, by rw [← hza]; simp only [List.drop_zero, List.drop_eq_getElem_cons hlta, List.flatMap_cons, ← hxa, PItem.exprs, if_neg hz', List.append_assoc, List.nil_append, List.singleton_append, List.cons_append]⟩, hga.app _, ⟨q0x, q5x⟩⟩ (by simp only [AtT, ats, Int.natCast_zero]) (by
              rintro ⟨ib, ob, vb⟩ jb hb db ⟨hib, ⟨zb, hzb⟩, hgb, hqb⟩
              clear hlb; subst hbb
              simp only at hib hzb hgb
              have q0b := hqb.1
              have q5b := hqb.2
              by_cases hltb : ib < xa.states.length
              · have e1b : ((ib : Int) < (xa.states.length : Int)) := by omega
                obtain ⟨xb, hxb⟩ : ∃ yy, yy = xa.states[ib] := ⟨_, rfl⟩
                have e3b : (xa.states.map PState.cells)[ib]? = some (PState.cells xb) := by simp [hltb, hxb]
                have hmb : xb ∈ xa.states := by rw [hxb]; exact List.getElem_mem hltb
                have hsb := hxs.2.2 xb hmb
                have hl2 := hsb.2.1
                have hl3 := hsb.2.2.2.1
                simp only [sims, core, pe, Nat.reduceAdd, Int.reduceBEq, Int.reduceBNe, Int.reduceLT, Int.reduceLE, effs, fx_33, ty, e1b, e3b, q0b, q5b]
                generalize hbc : codeB PP cmp0 C lpC _ = fc; generalize hlc : lpC fc _ = rc
                obtain ⟨exc, sc, rfl, rfl, vc', h2c⟩ := lpC_inv (α := Nat × List PExpr × AVal) hlc [38, 39, 40, 41, 42, 43, 44, 45, 46, 47, 48, 49, 50, 51, 52, 53, 54, 55, 56, 57, 58, 59, 60, 61] (fun a => [(7, .int .i64 a.1), (3, a.2.2)]) (fun a h => a.1 ≤ xb.eqs.length ∧ (∃ rest, a.2.1 ++ ((xb.eqs.drop a.1).map (·.e)) ++ rest = n.exprs) ∧ Grow h a.2.2 (a.2.1.map PExpr.cells) 36 ∧ h[0]? = some (.box n.cells) ∧ h[k5]? = some (.box xa.cells)) (fun a => xb.eqs.length - a.1) (fun a => a.2.1 ++ ((xb.eqs.drop a.1).map (·.e)))
                  (fun ts r ex s => ex = .exit 4 ∧ ∃ v, OutT [7, 38, 39, 40, 41, 42, 43, 44, 45, 46, 47, 48, 49, 50, 51, 52, 53, 54, 55, 56, 57, 58, 59, 60, 61] ts [(3, v)] (fun h => Grow h v (r.map PExpr.cells) 36 ∧ h[0]? = some (.box n.cells) ∧ h[k5]? = some (.box xa.cells)) s) (0, ob, vb) ⟨Nat.zero_le _, ⟨xb.ways.map (·.cond) ++ ((xa.states.drop (ib + 1)).flatMap PState.exprs ++ zb), by rw [← hzb]; simp only [List.drop_zero, List.drop_eq_getElem_cons hltb, List.flatMap_cons, ← hxb, PState.exprs, List.append_assoc]⟩, hgb, ⟨q0b, q5b⟩⟩ (by simp only [AtT, ats, Int.natCast_zero]) (by
                    rintro ⟨ic, oc, vc⟩ jc hc dc ⟨hic, ⟨zc, hzc⟩, hgc, hqc⟩
                    clear hlc; subst hbc
                    simp only at hic hzc hgc
                    have q0c := hqc.1
                    have q5c := hqc.2
                    by_cases hltc : ic < xb.eqs.length
                    · have e1c : ((ic : Int) < (xb.eqs.length : Int)) := by omega
                      obtain ⟨xc, hxc⟩ : ∃ yy, yy = xb.eqs[ic] := ⟨_, rfl⟩
                      have e3c : (xb.eqs.map PEq.cells)[ic]? = some (PEq.cells xc) := by simp [hltc, hxc]
                      have hmc : xc ∈ xb.eqs := by rw [hxc]; exact List.getElem_mem hltc
                      obtain ⟨v1, E1, ha1, hg1, hB1⟩ := app_grow ao_34 (fs := [xc.e.cells]) hgc (by
                        have := congrArg List.length hzc
                        simp only [List.drop_eq_getElem_cons hltc, List.map_cons, List.length_append, List.length_cons, List.length_map, List.length_nil] at this ⊢
                        omega) (cells36 _) (by intro c hc; simp only [List.mem_cons, List.not_mem_nil, or_false] at hc; subst hc; exact xc.e.len) (by simp)
                      simp only [sims, core, pe, Nat.reduceAdd, Int.reduceBEq, Int.reduceBNe, Int.reduceLT, Int.reduceLE, effs, fx_33, ty, e1c, e3c, e3b, q0c, q5c, ha1, wrap_nat (show ic ≤ lenTop by omega)]
                      exact .inl ⟨(ic + 1, oc ++ [xc.e], v1), _, rfl, ⟨hltc, ⟨zc, by rw [← hzc]; simp only [List.drop_eq_getElem_cons hltc, List.map_cons, ← hxc, List.append_assoc, List.singleton_append, List.cons_append, List.nil_append]⟩, by simpa using hg1, hB1 _ _ q0c, hB1 _ _ q5c⟩, by simp only [AtT, ats, Int.natCast_zero], by simp only []; omega, by simp only [List.drop_eq_getElem_cons hltc, List.map_cons, ← hxc, List.append_assoc, List.singleton_append, List.cons_append, List.nil_append]⟩
                    · have e1c : ¬ ((ic : Int) < (xb.eqs.length : Int)) := by omega
                      simp only [sims, core, pe, Nat.reduceAdd, Int.reduceBEq, Int.reduceBNe, Int.reduceLT, Int.reduceLE, effs, fx_33, ty, e1c, q0c, q5c, e3b]
                      refine .inr ⟨_, _, rfl, by simp, rfl, vc, ⟨by simp only [AtT, ats], ?_⟩⟩
                      simp only [List.drop_eq_nil_of_le (Nat.le_of_not_lt hltc), List.map_nil, List.flatMap_nil, List.append_nil]
                      exact ⟨hgc, hqc⟩)
                obtain ⟨jc', Hc', dc', ⟨hgc', q0c', q5c'⟩, rfl⟩ := h2c.elim
                clear hlc
                simp only [List.drop_zero] at hgc'
                simp only [sims, core, pe, Nat.reduceAdd, Int.reduceBEq, Int.reduceBNe, Int.reduceLT, Int.reduceLE, effs, fx_33, ty, q0c', q5c']
                generalize hbd : codeB PP cmp0 C lpC _ = fd; generalize hld : lpC fd _ = rd
                obtain ⟨exd, sd, rfl, rfl, vd', h2d⟩ := lpC_inv (α := Nat × List PExpr × AVal) hld [62, 63, 64, 65, 66, 67, 68, 69, 70, 71, 72, 73, 74, 75, 76, 77, 78, 79, 80, 81, 82, 83, 84, 85] (fun a => [(8, .int .i64 a.1), (3, a.2.2)]) (fun a h => a.1 ≤ xb.ways.length ∧ (∃ rest, a.2.1 ++ ((xb.ways.drop a.1).map (·.cond)) ++ rest = n.exprs) ∧ Grow h a.2.2 (a.2.1.map PExpr.cells) 36 ∧ h[0]? = some (.box n.cells) ∧ h[k5]? = some (.box xa.cells)) (fun a => xb.ways.length - a.1) (fun a => a.2.1 ++ ((xb.ways.drop a.1).map (·.cond)))
                  (fun ts r ex s => ex = .exit 6 ∧ ∃ v, OutT [8, 62, 63, 64, 65, 66, 67, 68, 69, 70, 71, 72, 73, 74, 75, 76, 77, 78, 79, 80, 81, 82, 83, 84, 85] ts [(3, v)] (fun h => Grow h v (r.map PExpr.cells) 36 ∧ h[0]? = some (.box n.cells) ∧ h[k5]? = some (.box xa.cells)) s) (0, (ob ++ xb.eqs.map (·.e)), vc') ⟨Nat.zero_le _, ⟨(xa.states.drop (ib + 1)).flatMap PState.exprs ++ zb, by rw [← hzb]; simp only [List.drop_zero, List.drop_eq_getElem_cons hltb, List.flatMap_cons, ← hxb, PState.exprs, List.append_assoc]⟩, hgc', ⟨q0c', q5c'⟩⟩ (by simp only [AtT, ats, Int.natCast_zero]) (by
                    rintro ⟨id, od, vd⟩ jd hd dd ⟨hid, ⟨zd, hzd⟩, hgd, hqd⟩
                    clear hld; subst hbd
                    simp only at hid hzd hgd
                    have q0d := hqd.1
                    have q5d := hqd.2
                    by_cases hltd : id < xb.ways.length
                    · have e1d : ((id : Int) < (xb.ways.length : Int)) := by omega
                      obtain ⟨xd, hxd⟩ : ∃ yy, yy = xb.ways[id] := ⟨_, rfl⟩
                      have e3d : (xb.ways.map PWay.cells)[id]? = some (PWay.cells xd) := by simp [hltd, hxd]
                      have hmd : xd ∈ xb.ways := by rw [hxd]; exact List.getElem_mem hltd
                      obtain ⟨v1, E1, ha1, hg1, hB1⟩ := app_grow ao_34 (fs := [xd.cond.cells]) hgd (by
                        have := congrArg List.length hzd
                        simp only [List.drop_eq_getElem_cons hltd, List.map_cons, List.length_append, List.length_cons, List.length_map, List.length_nil] at this ⊢
                        omega) (cells36 _) (by intro c hc; simp only [List.mem_cons, List.not_mem_nil, or_false] at hc; subst hc; exact xd.cond.len) (by simp)
                      simp only [sims, core, pe, Nat.reduceAdd, Int.reduceBEq, Int.reduceBNe, Int.reduceLT, Int.reduceLE, effs, fx_33, ty, e1d, e3d, e3b, q0d, q5d, ha1, wrap_nat (show id ≤ lenTop by omega)]
                      exact .inl ⟨(id + 1, od ++ [xd.cond], v1), _, rfl, ⟨hltd, ⟨zd, by rw [← hzd]; simp only [List.drop_eq_getElem_cons hltd, List.map_cons, ← hxd, List.append_assoc, List.singleton_append, List.cons_append, List.nil_append]⟩, by simpa using hg1, hB1 _ _ q0d, hB1 _ _ q5d⟩, by simp only [AtT, ats, Int.natCast_zero], by simp only []; omega, by simp only [List.drop_eq_getElem_cons hltd, List.map_cons, ← hxd, List.append_assoc, List.singleton_append, List.cons_append, List.nil_append]⟩
                    · have e1d : ¬ ((id : Int) < (xb.ways.length : Int)) := by omega
                      simp only [sims, core, pe, Nat.reduceAdd, Int.reduceBEq, Int.reduceBNe, Int.reduceLT, Int.reduceLE, effs, fx_33, ty, e1d, q0d, q5d, e3b]
                      refine .inr ⟨_, _, rfl, by simp, rfl, vd, ⟨by simp only [AtT, ats], ?_⟩⟩
                      simp only [List.drop_eq_nil_of_le (Nat.le_of_not_lt hltd), List.map_nil, List.flatMap_nil, List.append_nil]
                      exact ⟨hgd, hqd⟩)
                obtain ⟨jd', Hd', dd', ⟨hgd', q0d', q5d'⟩, rfl⟩ := h2d.elim
                clear hld
                simp only [List.drop_zero] at hgd'
                simp only [sims, core, pe, Nat.reduceAdd, Int.reduceBEq, Int.reduceBNe, Int.reduceLT, Int.reduceLE, effs, fx_33, ty, q0d', q5d', wrap_nat (show ib ≤ lenTop by omega)]
                exact .inl ⟨(ib + 1, ob ++ xb.eqs.map (·.e) ++ xb.ways.map (·.cond), vd'), _, rfl, ⟨hltb, ⟨zb, by rw [← hzb]; simp only [List.drop_eq_getElem_cons hltb, List.flatMap_cons, ← hxb, PState.exprs, List.append_assoc]⟩, hgd', q0d', q5d'⟩, by simp only [AtT, ats, Int.natCast_zero], by simp only []; omega, by simp only [List.drop_eq_getElem_cons hltb, List.flatMap_cons, ← hxb, PState.exprs, List.append_assoc]⟩
              · have e1b : ¬ ((ib : Int) < (xa.states.length : Int)) := by omega
                simp only [sims, core, pe, Nat.reduceAdd, Int.reduceBEq, Int.reduceBNe, Int.reduceLT, Int.reduceLE, effs, fx_33, ty, e1b, q0b, q5b]
                refine .inr ⟨_, _, rfl, by simp, rfl, vb, ⟨by simp only [AtT, ats], ?_⟩⟩
                simp only [List.drop_eq_nil_of_le (Nat.le_of_not_lt hltb), List.map_nil, List.flatMap_nil, List.append_nil]
                exact ⟨hgb, hqb⟩)
          obtain ⟨jb', Hb', db', ⟨hgb', q0b', q5b'⟩, rfl⟩ := h2b.elim
          clear hlb
          simp only [List.drop_zero] at hgb'
          simp only [sims, core, pe, Nat.reduceAdd, Int.reduceBEq, Int.reduceBNe, Int.reduceLT, Int.reduceLE, effs, fx_33, ty, q0b', q5b', wrap_nat (show ia ≤ lenTop by omega)]
          exact .inl ⟨(ia + 1, oa ++ xa.states.flatMap PState.exprs, vb'), _, rfl, ⟨hlta, ⟨za, by rw [← hza]; simp only [List.drop_eq_getElem_cons hlta, List.flatMap_cons, ← hxa, PItem.exprs, if_neg hz', List.append_assoc, List.nil_append, List.singleton_append, List.cons_append]⟩, hgb', q0b'⟩, by simp only [AtT, ats, Int.natCast_zero], by simp only []; omega, by simp only [List.drop_eq_getElem_cons hlta, List.flatMap_cons, ← hxa, PItem.exprs, if_neg hz', List.append_assoc, List.nil_append, List.singleton_append, List.cons_append]⟩
        · have hz' : xa.states.length = 0 := by simpa using hz
          obtain ⟨k5, hk5⟩ : ∃ k, k = ha.length := ⟨_, rfl⟩
          have q5x : (ha ++ [Blk.box xa.cells])[k5]? = some (.box xa.cells) := by rw [hk5]; exact heap_at0 _ _
          obtain ⟨v1, E1, ha1, hg1, hB1⟩ := app_grow ao_34 (fs := [xa.eq.e.cells]) (hga.app [.box xa.cells]) (by
            have := congrArg List.length hza
            simp only [List.drop_eq_getElem_cons hlta, List.flatMap_cons, ← hxa, PItem.exprs, if_pos hz', List.length_append, List.length_cons, List.length_map, List.length_nil] at this ⊢
            omega) (cells36 _) (by intro c hc; simp only [List.mem_cons, List.not_mem_nil, or_false] at hc; subst hc; exact xa.eq.e.len) (by simp)
          simp only [sims, core, pe, Nat.reduceAdd, Int.reduceBEq, Int.reduceBNe, Int.reduceLT, Int.reduceLE, effs, fx_33, ty, hz, ← hk5, q5x, PItem.sub_e, ha1]
          have q0y := hB1 _ _ q0x
          have q5y := hB1 _ _ q5x
          generalize hbb : codeB PP cmp0 C lpC _ = fb; generalize hlb : lpC fb _ = rb
          obtain ⟨exb, sb, rfl, rfl, vb', h2b⟩ := lpC_inv (α := Nat × List PExpr × AVal) hlb [7, 8, 31, 32, 33, 34, 35, 36, 37, 38, 39, 40, 41, 42, 43, 44, 45, 46, 47, 48, 49, 50, 51, 52, 53, 54, 55, 56, 57, 58, 59, 60, 61, 62, 63, 64, 65, 66, 67, 68, 69, 70, 71, 72, 73, 74, 75, 76, 77, 78, 79, 80, 81, 82, 83, 84, 85] (fun a => [(6, .int .i64 a.1), (3, a.2.2)]) (fun a h => a.1 ≤ xa.states.length ∧ (∃ rest, a.2.1 ++ ((xa.states.drop a.1).flatMap PState.exprs) ++ rest = n.exprs) ∧ Grow h a.2.2 (a.2.1.map PExpr.cells) 36 ∧ h[0]? = some (.box n.cells) ∧ h[k5]? = some (.box xa.cells)) (fun a => xa.states.length - a.1) (fun a => a.2.1 ++ ((xa.states.drop a.1).flatMap PState.exprs))
            (fun ts r ex s => ex = .exit 2 ∧ ∃ v, OutT [6, 7, 8, 31, 32, 33, 34, 35, 36, 37, 38, 39, 40, 41, 42, 43, 44, 45, 46, 47, 48, 49, 50, 51, 52, 53, 54, 55, 56, 57, 58, 59, 60, 61, 62, 63, 64, 65, 66, 67, 68, 69, 70, 71, 72, 73, 74, 75, 76, 77, 78, 79, 80, 81, 82, 83, 84, 85] ts [(3, v)] (fun h => Grow h v (r.map PExpr.cells) 36 ∧ h[0]? = some (.box n.cells) ∧ h[k5]? = some (.box xa.cells)) s) (0, (oa ++ [xa.eq.e]), v1) ⟨Nat.zero_le _, ⟨(n.items.drop (ia + 1)).flatMap PItem.exprs ++ za, by rw [← hza]; simp only [List.drop_zero, List.drop_eq_getElem_cons hlta, List.flatMap_cons, ← hxa, PItem.exprs, if_pos hz', List.append_assoc, List.nil_append, List.singleton_append, List.cons_append]⟩, by simpa using hg1, ⟨q0y, q5y⟩⟩ (by simp only [AtT, ats, Int.natCast_zero]) (by
              rintro ⟨ib, ob, vb⟩ jb hb db ⟨hib, ⟨zb, hzb⟩, hgb, hqb⟩
              clear hlb; subst hbb
              simp only at hib hzb hgb
              have q0b := hqb.1
              have q5b := hqb.2
              by_cases hltb : ib < xa.states.length
              · have e1b : ((ib : Int) < (xa.states.length : Int)) := by omega
                obtain ⟨xb, hxb⟩ : ∃ yy, yy = xa.states[ib] := ⟨_, rfl⟩
                have e3b : (xa.states.map PState.cells)[ib]? = some (PState.cells xb) := by simp [hltb, hxb]
                have hmb : xb ∈ xa.states := by rw [hxb]; exact List.getElem_mem hltb
                have hsb := hxs.2.2 xb hmb
                have hl2 := hsb.2.1
                have hl3 := hsb.2.2.2.1
                simp only [sims, core, pe, Nat.reduceAdd, Int.reduceBEq, Int.reduceBNe, Int.reduceLT, Int.reduceLE, effs, fx_33, ty, e1b, e3b, q0b, q5b]
                generalize hbc : codeB PP cmp0 C lpC _ = fc; generalize hlc : lpC fc _ = rc
                obtain ⟨exc, sc, rfl, rfl, vc', h2c⟩ := lpC_inv (α := Nat × List PExpr × AVal) hlc [38, 39, 40, 41, 42, 43, 44, 45, 46, 47, 48, 49, 50, 51, 52, 53, 54, 55, 56, 57, 58, 59, 60, 61] (fun a => [(7, .int .i64 a.1), (3, a.2.2)]) (fun a h => a.1 ≤ xb.eqs.length ∧ (∃ rest, a.2.1 ++ ((xb.eqs.drop a.1).map (·.e)) ++ rest = n.exprs) ∧ Grow h a.2.2 (a.2.1.map PExpr.cells) 36 ∧ h[0]? = some (.box n.cells) ∧ h[k5]? = some (.box xa.cells)) (fun a => xb.eqs.length - a.1) (fun a => a.2.1 ++ ((xb.eqs.drop a.1).map (·.e)))
                  (fun ts r ex s => ex = .exit 4 ∧ ∃ v, OutT [7, 38, 39, 40, 41, 42, 43, 44, 45, 46, 47, 48, 49, 50, 51, 52, 53, 54, 55, 56, 57, 58, 59, 60, 61] ts [(3, v)] (fun h => Grow h v (r.map PExpr.cells) 36 ∧ h[0]? = some (.box n.cells) ∧ h[k5]? = some (.box xa.cells)) s) (0, ob, vb) ⟨Nat.zero_le _, ⟨xb.ways.map (·.cond) ++ ((xa.states.drop (ib + 1)).flatMap PState.exprs ++ zb), by rw [← hzb]; simp only [List.drop_zero, List.drop_eq_getElem_cons hltb, List.flatMap_cons, ← hxb, PState.exprs, List.append_assoc]⟩, hgb, ⟨q0b, q5b⟩⟩ (by simp only [AtT, ats, Int.natCast_zero]) (by
                    rintro ⟨ic, oc, vc⟩ jc hc dc ⟨hic, ⟨zc, hzc⟩, hgc, hqc⟩
                    clear hlc; subst hbc
                    simp only at hic hzc hgc
                    have q0c := hqc.1
                    have q5c := hqc.2
                    by_cases hltc : ic < xb.eqs.length
                    · have e1c : ((ic : Int) < (xb.eqs.length : Int)) := by omega
                      obtain ⟨xc, hxc⟩ : ∃ yy, yy = xb.eqs[ic] := ⟨_, rfl⟩
                      have e3c : (xb.eqs.map PEq.cells)[ic]? = some (PEq.cells xc) := by simp [hltc, hxc]
                      have hmc : xc ∈ xb.eqs := by rw [hxc]; exact List.getElem_mem hltc
                      obtain ⟨v1, E1, ha1, hg1, hB1⟩ := app_grow ao_34 (fs := [xc.e.cells]) hgc (by
                        have := congrArg List.length hzc
                        simp only [List.drop_eq_getElem_cons hltc, List.map_cons, List.length_append, List.length_cons, List.length_map, List.length_nil] at this ⊢
                        omega) (cells36 _) (by intro c hc; simp only [List.mem_cons, List.not_mem_nil, or_false] at hc; subst hc; exact xc.e.len) (by simp)
                      simp only [sims, core, pe, Nat.reduceAdd, Int.reduceBEq, Int.reduceBNe, Int.reduceLT, Int.reduceLE, effs, fx_33, ty, e1c, e3c, e3b, q0c, q5c, ha1, wrap_nat (show ic ≤ lenTop by omega)]
                      exact .inl ⟨(ic + 1, oc ++ [xc.e], v1), _, rfl, ⟨hltc, ⟨zc, by rw [← hzc]; simp only [List.drop_eq_getElem_cons hltc, List.map_cons, ← hxc, List.append_assoc, List.singleton_append, List.cons_append, List.nil_append]⟩, by simpa using hg1, hB1 _ _ q0c, hB1 _ _ q5c⟩, by simp only [AtT, ats, Int.natCast_zero], by simp only []; omega, by simp only [List.drop_eq_getElem_cons hltc, List.map_cons, ← hxc, List.append_assoc, List.singleton_append, List.cons_append, List.nil_append]⟩
                    · have e1c : ¬ ((ic : Int) < (xb.eqs.length : Int)) := by omega
                      simp only [sims, core, pe, Nat.reduceAdd, Int.reduceBEq, Int.reduceBNe, Int.reduceLT, Int.reduceLE, effs, fx_33, ty, e1c, q0c, q5c, e3b]
                      refine .inr ⟨_, _, rfl, by simp, rfl, vc, ⟨by simp only [AtT, ats], ?_⟩⟩
                      simp only [List.drop_eq_nil_of_le (Nat.le_of_not_lt hltc), List.map_nil, List.flatMap_nil, List.append_nil]
                      exact ⟨hgc, hqc⟩)
                obtain ⟨jc', Hc', dc', ⟨hgc', q0c', q5c'⟩, rfl⟩ := h2c.elim
                clear hlc
                simp only [List.drop_zero] at hgc'
                simp only [sims, core, pe, Nat.reduceAdd, Int.reduceBEq, Int.reduceBNe, Int.reduceLT, Int.reduceLE, effs, fx_33, ty, q0c', q5c']
                generalize hbd : codeB PP cmp0 C lpC _ = fd; generalize hld : lpC fd _ = rd
                obtain ⟨exd, sd, rfl, rfl, vd', h2d⟩ := lpC_inv (α := Nat × List PExpr × AVal) hld [62, 63, 64, 65, 66, 67, 68, 69, 70, 71, 72, 73, 74, 75, 76, 77, 78, 79, 80, 81, 82, 83, 84, 85] (fun a => [(8, .int .i64 a.1), (3, a.2.2)]) (fun a h => a.1 ≤ xb.ways.length ∧ (∃ rest, a.2.1 ++ ((xb.ways.drop a.1).map (·.cond)) ++ rest = n.exprs) ∧ Grow h a.2.2 (a.2.1.map PExpr.cells) 36 ∧ h[0]? = some (.box n.cells) ∧ h[k5]? = some (.box xa.cells)) (fun a => xb.ways.length - a.1) (fun a => a.2.1 ++ ((xb.ways.drop a.1).map (·.cond)))
                  (fun ts r ex s => ex = .exit 6 ∧ ∃ v, OutT [8, 62, 63, 64, 65, 66, 67, 68, 69, 70, 71, 72, 73, 74, 75, 76, 77, 78, 79, 80, 81, 82, 83, 84, 85] ts [(3, v)] (fun h => Grow h v (r.map PExpr.cells) 36 ∧ h[0]? = some (.box n.cells) ∧ h[k5]? = some (.box xa.cells)) s) (0, (ob ++ xb.eqs.map (·.e)), vc') ⟨Nat.zero_le _, ⟨(xa.states.drop (ib + 1)).flatMap PState.exprs ++ zb, by rw [← hzb]; simp only [List.drop_zero, List.drop_eq_getElem_cons hltb, List.flatMap_cons, ← hxb, PState.exprs, List.append_assoc]⟩, hgc', ⟨q0c', q5c'⟩⟩ (by simp only [AtT, ats, Int.natCast_zero]) (by
                    rintro ⟨id, od, vd⟩ jd hd dd ⟨hid, ⟨zd, hzd⟩, hgd, hqd⟩
                    clear hld; subst hbd
                    simp only at hid hzd hgd
                    have q0d := hqd.1
                    have q5d := hqd.2
                    by_cases hltd : id < xb.ways.length
                    · have e1d : ((id : Int) < (xb.ways.length : Int)) := by omega
                      obtain ⟨xd, hxd⟩ : ∃ yy, yy = xb.ways[id] := ⟨_, rfl⟩
                      have e3d : (xb.ways.map PWay.cells)[id]? = some (PWay.cells xd) := by simp [hltd, hxd]
                      have hmd : xd ∈ xb.ways := by rw [hxd]; exact List.getElem_mem hltd
                      obtain ⟨v1, E1, ha1, hg1, hB1⟩ := app_grow ao_34 (fs := [xd.cond.cells]) hgd (by
                        have := congrArg List.length hzd
                        simp only [List.drop_eq_getElem_cons hltd, List.map_cons, List.length_append, List.length_cons, List.length_map, List.length_nil] at this ⊢
                        omega) (cells36 _) (by intro c hc; simp only [List.mem_cons, List.not_mem_nil, or_false] at hc; subst hc; exact xd.cond.len) (by simp)
                      simp only [sims, core, pe, Nat.reduceAdd, Int.reduceBEq, Int.reduceBNe, Int.reduceLT, Int.reduceLE, effs, fx_33, ty, e1d, e3d, e3b, q0d, q5d, ha1, wrap_nat (show id ≤ lenTop by omega)]
                      exact .inl ⟨(id + 1, od ++ [xd.cond], v1), _, rfl, ⟨hltd, ⟨zd, by rw [← hzd]; simp only [List.drop_eq_getElem_cons hltd, List.map_cons, ← hxd, List.append_assoc, List.singleton_append, List.cons_append, List.nil_append]⟩, by simpa using hg1, hB1 _ _ q0d, hB1 _ _ q5d⟩, by simp only [AtT, ats, Int.natCast_zero], by simp only []; omega, by simp only [List.drop_eq_getElem_cons hltd, List.map_cons, ← hxd, List.append_assoc, List.singleton_append, List.cons_append, List.nil_append]⟩
                    · have e1d : ¬ ((id : Int) < (xb.ways.length : Int)) := by omega
                      simp only [sims, core, pe, Nat.reduceAdd, Int.reduceBEq, Int.reduceBNe, Int.reduceLT, Int.reduceLE, effs, fx_33, ty, e1d, q0d, q5d, e3b]
                      refine .inr ⟨_, _, rfl, by simp, rfl, vd, ⟨by simp only [AtT, ats], ?_⟩⟩
                      simp only [List.drop_eq_nil_of_le (Nat.le_of_not_lt hltd), List.map_nil, List.flatMap_nil, List.append_nil]
                      exact ⟨hgd, hqd⟩)
                obtain ⟨jd', Hd', dd', ⟨hgd', q0d', q5d'⟩, rfl⟩ := h2d.elim
                clear hld
                simp only [List.drop_zero] at hgd'
                simp only [sims, core, pe, Nat.reduceAdd, Int.reduceBEq, Int.reduceBNe, Int.reduceLT, Int.reduceLE, effs, fx_33, ty, q0d', q5d', wrap_nat (show ib ≤ lenTop by omega)]
                exact .inl ⟨(ib + 1, ob ++ xb.eqs.map (·.e) ++ xb.ways.map (·.cond), vd'), _, rfl, ⟨hltb, ⟨zb, by rw [← hzb]; simp only [List.drop_eq_getElem_cons hltb, List.flatMap_cons, ← hxb, PState.exprs, List.append_assoc]⟩, hgd', q0d', q5d'⟩, by simp only [AtT, ats, Int.natCast_zero], by simp only []; omega, by simp only [List.drop_eq_getElem_cons hltb, List.flatMap_cons, ← hxb, PState.exprs, List.append_assoc]⟩
              · have e1b : ¬ ((ib : Int) < (xa.states.length : Int)) := by omega
                simp only [sims, core, pe, Nat.reduceAdd, Int.reduceBEq, Int.reduceBNe, Int.reduceLT, Int.reduceLE, effs, fx_33, ty, e1b, q0b, q5b]
                refine .inr ⟨_, _, rfl, by simp, rfl, vb, ⟨by simp only [AtT, ats], ?_⟩⟩
                simp only [List.drop_eq_nil_of_le (Nat.le_of_not_lt hltb), List.map_nil, List.flatMap_nil, List.append_nil]
                exact ⟨hgb, hqb⟩)
          obtain ⟨jb', Hb', db', ⟨hgb', q0b', q5b'⟩, rfl⟩ := h2b.elim
          clear hlb
          simp only [List.drop_zero] at hgb'
          simp only [sims, core, pe, Nat.reduceAdd, Int.reduceBEq, Int.reduceBNe, Int.reduceLT, Int.reduceLE, effs, fx_33, ty, q0b', q5b', wrap_nat (show ia ≤ lenTop by omega)]
          exact .inl ⟨(ia + 1, (oa ++ [xa.eq.e]) ++ xa.states.flatMap PState.exprs, vb'), _, rfl, ⟨hlta, ⟨za, by rw [← hza]; simp only [List.drop_eq_getElem_cons hlta, List.flatMap_cons, ← hxa, PItem.exprs, if_pos hz', List.append_assoc, List.nil_append, List.singleton_append, List.cons_append]⟩, hgb', q0b'⟩, by simp only [AtT, ats, Int.natCast_zero], by simp only []; omega, by simp only [List.drop_eq_getElem_cons hlta, List.flatMap_cons, ← hxa, PItem.exprs, if_pos hz', List.append_assoc, List.nil_append, List.singleton_append, List.cons_append]⟩
      · have e1a : ¬ ((ia : Int) < (n.items.length : Int)) := by omega
        simp only [sims, core, pe, Nat.reduceAdd, Int.reduceBEq, Int.reduceBNe, Int.reduceLT, Int.reduceLE, effs, fx_33, ty, e1a, q0a]
        refine .inr ⟨_, _, rfl, by simp, rfl, va, ⟨by simp only [AtT, ats], ?_⟩⟩
        simp only [List.drop_eq_nil_of_le (Nat.le_of_not_lt hlta), List.map_nil, List.flatMap_nil, List.append_nil]
        exact ⟨hga, hqa⟩)
  obtain ⟨j', H', d', ⟨hg, q0⟩, rfl⟩ := h2a.elim
  clear hla
  simp only [List.drop_zero, List.nil_append] at hg
  have hv : ∃ tk, va' = .slice (n.exprs.map PExpr.cells) tk := by
    rcases hg with ⟨h1, h2⟩ | ⟨t, h1, _⟩
    · exact ⟨_, by rw [h2]; exact congrArg (fun l => AVal.slice l .full) h1.symm⟩
    · exact ⟨_, h1⟩
  obtain ⟨tk, rfl⟩ := hv
  simp only [sims, core, pe, Nat.reduceAdd, Int.reduceBEq, Int.reduceBNe, Int.reduceLT, Int.reduceLE, fx_33]
end Go.Ab
