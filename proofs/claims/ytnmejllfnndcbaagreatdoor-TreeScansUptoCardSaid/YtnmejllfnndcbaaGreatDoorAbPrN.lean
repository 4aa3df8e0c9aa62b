/- What the printer writes of equations, items and nodes. -/
import Derived.Test.YtnmejllfnndcbaaGreatDoorAbPrX
import Derived.Test.YtnmejllfnndcbaaGreatDoorAbReadT
set_option linter.unusedSimpArgs false
set_option linter.unusedVariables false
namespace Go.Ab
open Go Go.Ab.Tab
set_option maxRecDepth 100000
set_option maxHeartbeats 4000000
set_option linter.unusedSimpArgs false
def namesW (l : List Str) : List Str := [[40]] ++ listW l [44] ++ [[41]]
def headW : List Str → List Str
  | [x] => [x]
  | l => namesW l
def eqW (q : PEq) : List Str := headW q.names ++ [[61]] ++ q.e.words ++ [[59]]
def wayW (w : PWay) : List Str := [[117, 110, 116, 105, 108]] ++ w.cond.words ++ [[116, 104, 101, 110], w.to, [59]]
def stateW (s : PState) : List Str := [[115, 116, 97, 116, 101], s.name, [58]] ++ s.eqs.flatMap eqW ++ s.ways.flatMap wayW
def itemW (x : PItem) : List Str := if x.states.length = 0 then eqW x.eq else [[97, 117, 116, 111, 109, 97, 116, 111, 110]] ++ x.states.flatMap stateW ++ [[101, 110, 100], [59]]
def nodeW (n : PNode) : List Str := [[110, 111, 100, 101], n.name] ++ brW n.funs ++ namesW n.ins ++ [[61]] ++ namesW n.outs ++ [[119, 104, 101, 114, 101]] ++ n.items.flatMap itemW ++ [[101, 110, 100]]
theorem flat_take {X : Type} (f : X → List Str) (L : List X) (i : Nat) (h : i < L.length) : (L.take (i + 1)).flatMap f = (L.take i).flatMap f ++ f L[i] := by
  rw [List.take_succ_eq_append_getElem h, List.flatMap_append]; simp
theorem flat_take_len {X : Type} (f : X → List Str) (L : List X) (i : Nat) : ((L.take i).flatMap f).length ≤ (L.flatMap f).length := by
  have : L.flatMap f = (L.take i).flatMap f ++ (L.drop i).flatMap f := by rw [← List.flatMap_append, List.take_append_drop]
  rw [this, List.length_append]; omega
theorem names_p (l : List Str) (hl : l.length ≤ lenTop) : PrV 65 [encStrs l] (namesW l) := by
  intro ws hb
  obtain ⟨h, hh⟩ : ∃ h, h = pOwn 9 ws := ⟨_, rfl⟩
  rw [← hh]
  have c : Canon 9 h ws (some 1) := ⟨rfl, hh⟩
  clear hh
  have p0 := c.at
  have hpos : 0 < h.length := by
    exact (List.getElem?_eq_some_iff.1 p0.1).1
  have kl : PrV 35 [encStrs l, .str [44]] (listW l [44]) := list_c l [44] hl
  unfold namesW at hb ⊢
  refine C_finF rfl Go.Proofs.Tryz.func65 rfl (by kernel_rfl) (m := 11) rfl ?_; simp only [sims, core, pe, Nat.reduceAdd, Int.reduceBEq, Int.reduceBNe, Int.reduceLT, Int.reduceLE, Go.Proofs.Tryz.f65, effs, fx_65]
  obtain ⟨E1, hE1, p1, o1, l1⟩ := pr_callO keepC (show PrW 34 [.slice [[.str [40]]] .full] [[40]] from put_c [[40]] (by simp)).own rfl p0 (by (try simp only [List.length_append, List.length_cons, List.length_nil] at hb); (try simp only [List.length_append, List.length_cons, List.length_nil]); omega)
  simp only [sims, core, pe, Nat.reduceAdd, Int.reduceBEq, Int.reduceBNe, Int.reduceLT, Int.reduceLE, effs, fx_65, ty, hE1]
  clear hE1; generalize hh1 : Eff.of h E1 = h1 at *; clear hh1
  obtain ⟨E2, hE2, p2, o2, l2⟩ := pr_callO keepC kl rfl p1 (by (try simp only [List.length_append, List.length_cons, List.length_nil] at hb); (try simp only [List.length_append, List.length_cons, List.length_nil]); omega)
  simp only [sims, core, pe, Nat.reduceAdd, Int.reduceBEq, Int.reduceBNe, Int.reduceLT, Int.reduceLE, effs, fx_65, ty, hE2]
  clear hE2; generalize hh2 : Eff.of h1 E2 = h2 at *; clear hh2
  obtain ⟨E3, hE3, p3, o3, l3⟩ := pr_callO keepC (show PrW 34 [.slice [[.str [41]]] .full] [[41]] from put_c [[41]] (by simp)).own rfl p2 (by (try simp only [List.length_append, List.length_cons, List.length_nil] at hb); (try simp only [List.length_append, List.length_cons, List.length_nil]); omega)
  simp only [sims, core, pe, Nat.reduceAdd, Int.reduceBEq, Int.reduceBNe, Int.reduceLT, Int.reduceLE, effs, fx_65, ty, hE3]
  clear hE3; generalize hh3 : Eff.of h2 E3 = h3 at *; clear hh3
  exact fin_pr c (fun e => by cases e) (.inr rfl) rfl (t := 1) (fun _ e => Option.some.inj e) (fun e => by cases e) (by simpa only [List.append_assoc, List.cons_append, List.nil_append] using p3)
theorem eq_p (q : PEq) (hs : q.Small) (hr : q.Rng) : PrV 105 [.agg q.cells] (eqW q) := by
  intro ws hb
  obtain ⟨h, hh⟩ : ∃ h, h = pOwn 9 ws := ⟨_, rfl⟩
  rw [← hh]
  have c : Canon 9 h ws (some 1) := ⟨rfl, hh⟩
  clear hh
  have p0 := c.at
  have hpos : 0 < h.length := by
    exact (List.getElem?_eq_some_iff.1 p0.1).1
  have hl1 := hs.1.1
  have kn := names_p q.names hl1
  have ke := (prexpr_c q.e hs.2 hr).own
  unfold eqW at hb ⊢
  have b_0 : (h ++ [Blk.box q.cells])[h.length]? = some (.box q.cells) := heap_at0 _ _
  by_cases hz : q.names.length = 1
  · obtain ⟨x, hx⟩ := List.length_eq_one_iff.1 hz
    have e0 : ((q.names.length : Int) == 1) = true := by simp [hz]
    have hh : headW q.names = [x] := by rw [hx]; rfl
    have e3 : (q.names.map fun s => [AVal.str s])[0]? = some [.str x] := by rw [hx]; rfl
    rw [hh] at hb ⊢
    refine C_finF rfl Go.Proofs.Tryz.func105 rfl (by kernel_rfl) (m := 27) rfl ?_; simp only [sims, core, pe, Nat.reduceAdd, Int.reduceBEq, Int.reduceBNe, Int.reduceLT, Int.reduceLE, Go.Proofs.Tryz.f105, effs, fx_105, ty, e0, e3, encStrs]
    obtain ⟨E1, hE1, p1, o1, l1⟩ := pr_callO keepC (show PrW 34 [.slice [[.str x]] .full] [x] from put_c [x] (by simp)).own rfl (p0.app [.box q.cells]) (by (try simp only [List.length_append, List.length_cons, List.length_nil] at hb); (try simp only [List.length_append, List.length_cons, List.length_nil]); omega)
    have b_1 : (Eff.of (h ++ [.box q.cells]) E1)[h.length]? = some (.box q.cells) := o1 _ _ (by omega) b_0
    simp only [sims, core, pe, Nat.reduceAdd, Int.reduceBEq, Int.reduceBNe, Int.reduceLT, Int.reduceLE, effs, fx_105, ty, b_1, hE1]
    clear hE1; generalize hh1 : Eff.of (h ++ [.box q.cells]) E1 = h1 at *; clear hh1
    obtain ⟨E2, hE2, p2, o2, l2⟩ := pr_callO keepC (show PrW 34 [.slice [[.str [61]]] .full] [[61]] from put_c [[61]] (by simp)).own rfl p1 (by (try simp only [List.length_append, List.length_cons, List.length_nil] at hb); (try simp only [List.length_append, List.length_cons, List.length_nil]); omega)
    have b_2 : (Eff.of h1 E2)[h.length]? = some (.box q.cells) := o2 _ _ (by omega) b_1
    simp only [sims, core, pe, Nat.reduceAdd, Int.reduceBEq, Int.reduceBNe, Int.reduceLT, Int.reduceLE, effs, fx_105, ty, b_2, hE2]
    clear hE2; generalize hh2 : Eff.of h1 E2 = h2 at *; clear hh2
    obtain ⟨E3, hE3, p3, o3, l3⟩ := pr_callO keepC ke (by simp [refsL, refs, q.e.norefs]) p2 (by (try simp only [List.length_append, List.length_cons, List.length_nil] at hb); (try simp only [List.length_append, List.length_cons, List.length_nil]); omega)
    have b_3 : (Eff.of h2 E3)[h.length]? = some (.box q.cells) := o3 _ _ (by omega) b_2
    simp only [sims, core, pe, Nat.reduceAdd, Int.reduceBEq, Int.reduceBNe, Int.reduceLT, Int.reduceLE, effs, fx_105, ty, b_3, hE3]
    clear hE3; generalize hh3 : Eff.of h2 E3 = h3 at *; clear hh3
    obtain ⟨E4, hE4, p4, o4, l4⟩ := pr_callO keepC (show PrW 34 [.slice [[.str [59]]] .full] [[59]] from put_c [[59]] (by simp)).own rfl p3 (by (try simp only [List.length_append, List.length_cons, List.length_nil] at hb); (try simp only [List.length_append, List.length_cons, List.length_nil]); omega)
    have b_4 : (Eff.of h3 E4)[h.length]? = some (.box q.cells) := o4 _ _ (by omega) b_3
    simp only [sims, core, pe, Nat.reduceAdd, Int.reduceBEq, Int.reduceBNe, Int.reduceLT, Int.reduceLE, effs, fx_105, ty, b_4, hE4]
    clear hE4; generalize hh4 : Eff.of h3 E4 = h4 at *; clear hh4
    exact fin_pr c (fun e => by cases e) (.inr rfl) rfl (t := 1) (fun _ e => Option.some.inj e) (fun e => by cases e) (by simpa only [List.append_assoc, List.cons_append, List.nil_append] using p4)
  · have e0 : ((q.names.length : Int) == 1) = false := beq_false_of_ne (by omega)
    have hh : headW q.names = namesW q.names := by
      cases hq : q.names with
      | nil => rfl
      | cons x r =>
        cases r with
        | nil => rw [hq] at hz; simp at hz
        | cons y t => rfl
    rw [hh] at hb ⊢
    refine C_finF rfl Go.Proofs.Tryz.func105 rfl (by kernel_rfl) (m := 27) rfl ?_; simp only [sims, core, pe, Nat.reduceAdd, Int.reduceBEq, Int.reduceBNe, Int.reduceLT, Int.reduceLE, Go.Proofs.Tryz.f105, effs, fx_105, ty, e0, len_encStrs]
    obtain ⟨E1, hE1, p1, o1, l1⟩ := pr_callO keepC kn rfl (p0.app [.box q.cells]) (by (try simp only [List.length_append, List.length_cons, List.length_nil] at hb); (try simp only [List.length_append, List.length_cons, List.length_nil]); omega)
    have b_1 : (Eff.of (h ++ [.box q.cells]) E1)[h.length]? = some (.box q.cells) := o1 _ _ (by omega) b_0
    simp only [sims, core, pe, Nat.reduceAdd, Int.reduceBEq, Int.reduceBNe, Int.reduceLT, Int.reduceLE, effs, fx_105, ty, b_1, hE1]
    clear hE1; generalize hh1 : Eff.of (h ++ [.box q.cells]) E1 = h1 at *; clear hh1
    obtain ⟨E2, hE2, p2, o2, l2⟩ := pr_callO keepC (show PrW 34 [.slice [[.str [61]]] .full] [[61]] from put_c [[61]] (by simp)).own rfl p1 (by (try simp only [List.length_append, List.length_cons, List.length_nil] at hb); (try simp only [List.length_append, List.length_cons, List.length_nil]); omega)
    have b_2 : (Eff.of h1 E2)[h.length]? = some (.box q.cells) := o2 _ _ (by omega) b_1
    simp only [sims, core, pe, Nat.reduceAdd, Int.reduceBEq, Int.reduceBNe, Int.reduceLT, Int.reduceLE, effs, fx_105, ty, b_2, hE2]
    clear hE2; generalize hh2 : Eff.of h1 E2 = h2 at *; clear hh2
    obtain ⟨E3, hE3, p3, o3, l3⟩ := pr_callO keepC ke (by simp [refsL, refs, q.e.norefs]) p2 (by (try simp only [List.length_append, List.length_cons, List.length_nil] at hb); (try simp only [List.length_append, List.length_cons, List.length_nil]); omega)
    have b_3 : (Eff.of h2 E3)[h.length]? = some (.box q.cells) := o3 _ _ (by omega) b_2
    simp only [sims, core, pe, Nat.reduceAdd, Int.reduceBEq, Int.reduceBNe, Int.reduceLT, Int.reduceLE, effs, fx_105, ty, b_3, hE3]
    clear hE3; generalize hh3 : Eff.of h2 E3 = h3 at *; clear hh3
    obtain ⟨E4, hE4, p4, o4, l4⟩ := pr_callO keepC (show PrW 34 [.slice [[.str [59]]] .full] [[59]] from put_c [[59]] (by simp)).own rfl p3 (by (try simp only [List.length_append, List.length_cons, List.length_nil] at hb); (try simp only [List.length_append, List.length_cons, List.length_nil]); omega)
    have b_4 : (Eff.of h3 E4)[h.length]? = some (.box q.cells) := o4 _ _ (by omega) b_3
    simp only [sims, core, pe, Nat.reduceAdd, Int.reduceBEq, Int.reduceBNe, Int.reduceLT, Int.reduceLE, effs, fx_105, ty, b_4, hE4]
    clear hE4; generalize hh4 : Eff.of h3 E4 = h4 at *; clear hh4
    exact fin_pr c (fun e => by cases e) (.inr rfl) rfl (t := 1) (fun _ e => Option.some.inj e) (fun e => by cases e) (by simpa only [List.append_assoc, List.cons_append, List.nil_append] using p4)
theorem item_p (x : PItem) (hs : x.Small) (hr : x.Rng) : PrV 66 [.agg x.cells] (itemW x) := by
  intro ws hb
  obtain ⟨h, hh⟩ : ∃ h, h = pOwn 9 ws := ⟨_, rfl⟩
  rw [← hh]
  have c : Canon 9 h ws (some 1) := ⟨rfl, hh⟩
  clear hh
  have p0 := c.at
  have hpos : 0 < h.length := by
    exact (List.getElem?_eq_some_iff.1 p0.1).1
  have ke := eq_p x.eq hs.1 hr.1
  have hl1 := hs.2.1
  by_cases hz : x.states.length = 0
  · have e0 : ((x.states.length : Int) == 0) = true := by simp [hz]
    have hw : itemW x = eqW x.eq := if_pos hz
    rw [hw] at hb ⊢
    refine C_finF rfl Go.Proofs.Tryz.func66 rfl (by kernel_rfl) (m := 66) rfl ?_; simp only [sims, core, pe, Nat.reduceAdd, Int.reduceBEq, Int.reduceBNe, Int.reduceLT, Int.reduceLE, Go.Proofs.Tryz.f66, effs, fx_66, ty, e0]
    obtain ⟨E1, hE1, p1, o1, l1⟩ := pr_callO keepC ke (by simp [refsL, refs, x.eq.norefs]) (p0.app [.box x.cells]) (by (try simp only [List.length_append, List.length_cons, List.length_nil] at hb); (try simp only [List.length_append, List.length_cons, List.length_nil]); omega)
    simp only [sims, core, pe, Nat.reduceAdd, Int.reduceBEq, Int.reduceBNe, Int.reduceLT, Int.reduceLE, effs, fx_66, ty, hE1]
    clear hE1; generalize hh1 : Eff.of (h ++ [.box x.cells]) E1 = h1 at *; clear hh1
    exact fin_pr c (fun e => by cases e) (by first | exact .inl rfl | exact .inr rfl) rfl (t := 1) (fun _ e => Option.some.inj e) (fun e => by cases e) (by simpa only [List.append_assoc, List.cons_append, List.nil_append] using p1)
  · have e0 : ((x.states.length : Int) == 0) = false := beq_false_of_ne (by omega)
    have hw : itemW x = [[97, 117, 116, 111, 109, 97, 116, 111, 110]] ++ x.states.flatMap stateW ++ [[101, 110, 100], [59]] := if_neg hz
    rw [hw] at hb ⊢
    have b_0 : (h ++ [Blk.box x.cells])[h.length]? = some (.box x.cells) := heap_at0 _ _
    refine C_finF rfl Go.Proofs.Tryz.func66 rfl (by kernel_rfl) (m := 66) rfl ?_; simp only [sims, core, pe, Nat.reduceAdd, Int.reduceBEq, Int.reduceBNe, Int.reduceLT, Int.reduceLE, Go.Proofs.Tryz.f66, effs, fx_66, ty, e0]
    obtain ⟨E1, hE1, p1, o1, l1⟩ := pr_callO keepC (show PrW 34 [.slice [[.str [97, 117, 116, 111, 109, 97, 116, 111, 110]]] .full] [[97, 117, 116, 111, 109, 97, 116, 111, 110]] from put_c [[97, 117, 116, 111, 109, 97, 116, 111, 110]] (by simp)).own rfl (p0.app [.box x.cells]) (by (try simp only [List.length_append, List.length_cons, List.length_nil] at hb); (try simp only [List.length_append, List.length_cons, List.length_nil]); omega)
    have b_1 : (Eff.of (h ++ [.box x.cells]) E1)[h.length]? = some (.box x.cells) := o1 _ _ (by omega) b_0
    simp only [sims, core, pe, Nat.reduceAdd, Int.reduceBEq, Int.reduceBNe, Int.reduceLT, Int.reduceLE, effs, fx_66, ty, b_1, hE1]
    clear hE1; generalize hh1 : Eff.of (h ++ [.box x.cells]) E1 = h1 at *; clear hh1
    generalize hbla : codeB PP cmp0 C lpC _ = fa; generalize hl0a : lpC fa _ = ra
    obtain ⟨exa, sa, rfl, rfl, h2a⟩ := lpC_inv (α := Nat) hl0a [5, 7, 9, 25, 26, 27, 28, 29, 30, 31, 32, 33, 34, 35, 36, 37, 38, 39, 40, 41, 42, 43, 44, 45, 46, 47, 48, 49, 50, 51, 52, 53, 54, 55, 56, 57, 58, 59, 60, 61, 62, 63, 64] (fun i => [(24, .int .i64 i)]) (fun i g => i ≤ x.states.length ∧ PrAt 9 g 0 (ws ++ [[97, 117, 116, 111, 109, 97, 116, 111, 110]] ++ (x.states.take i).flatMap stateW) (some 1)) (fun i => x.states.length - i) (fun _ => ()) (fun ts _ ex s => ex = .exit 0 ∧ OutT [5, 7, 9, 24, 25, 26, 27, 28, 29, 30, 31, 32, 33, 34, 35, 36, 37, 38, 39, 40, 41, 42, 43, 44, 45, 46, 47, 48, 49, 50, 51, 52, 53, 54, 55, 56, 57, 58, 59, 60, 61, 62, 63, 64] ts [] (fun g => PrAt 9 g 0 (ws ++ [[97, 117, 116, 111, 109, 97, 116, 111, 110]] ++ x.states.flatMap stateW) (some 1)) s) 0 ⟨Nat.zero_le _, by simpa using p1⟩ (by simp only [AtT, ats, Int.natCast_zero]) (by
      rintro ia ja ga da ⟨hia, pia⟩
      clear hl0a; subst hbla
      have hga0 : 0 < ga.length := (List.getElem?_eq_some_iff.1 pia.1).1
      by_cases hlta : ia < x.states.length
      · have e1a : ((ia : Int) < (x.states.length : Int)) := by omega
        obtain ⟨xa, hxa⟩ : ∃ yy, yy = x.states[ia] := ⟨_, rfl⟩
        have e3a : (x.states.map PState.cells)[ia]? = some (PState.cells xa) := by simp [hlta, hxa]
        have hma : xa ∈ x.states := by rw [hxa]; exact List.getElem_mem hlta
        have hqa := flat_take_len stateW x.states (ia + 1)
        have hspa := flat_take stateW x.states ia hlta
        rw [← hxa] at hspa
        rw [hspa] at hqa
        have hsa := hs.2.2 xa hma
        have hra := hr.2 xa hma
        have hl2 := hsa.2.1
        have hl3 := hsa.2.2.2.1
        have hsw : (stateW xa).length = 3 + (xa.eqs.flatMap eqW).length + (xa.ways.flatMap wayW).length := by simp [stateW]; omega
        have bs_0 : (ga ++ [Blk.box xa.cells])[ga.length]? = some (.box xa.cells) := heap_at0 _ _
        simp only [sims, core, pe, Nat.reduceAdd, Int.reduceBEq, Int.reduceBNe, Int.reduceLT, Int.reduceLE, effs, fx_66, ty, bs_0, e1a, e3a]
        obtain ⟨E21, hE21, p21, o21, l21⟩ := pr_callO keepC (show PrW 34 [.slice [[.str [115, 116, 97, 116, 101]], [.str xa.name], [.str [58]]] .full] [[115, 116, 97, 116, 101], xa.name, [58]] from put_c [[115, 116, 97, 116, 101], xa.name, [58]] (by simp)).own rfl (pia.app [.box xa.cells]) (by (try simp only [List.length_append, List.length_cons, List.length_nil] at hb); (try simp only [List.length_append, List.length_cons, List.length_nil] at hqa); (try simp only [List.length_append, List.length_cons, List.length_nil]); omega)
        have bs_21 : (Eff.of (ga ++ [.box xa.cells]) E21)[ga.length]? = some (.box xa.cells) := o21 _ _ (by omega) bs_0
        simp only [sims, core, pe, Nat.reduceAdd, Int.reduceBEq, Int.reduceBNe, Int.reduceLT, Int.reduceLE, effs, fx_66, ty, bs_21, e1a, e3a, hE21]
        clear hE21; generalize hh21 : Eff.of (ga ++ [.box xa.cells]) E21 = h21 at *; clear hh21
        generalize hblb : codeB PP cmp0 C lpC _ = fb; generalize hl0b : lpC fb _ = rb
        obtain ⟨exb, sb, rfl, rfl, h2b⟩ := lpC_inv (α := Nat) hl0b [7, 37, 38, 39, 40, 41, 42, 43] (fun i => [(36, .int .i64 i)]) (fun i g => i ≤ xa.eqs.length ∧ PrAt 9 g 0 (ws ++ [[97, 117, 116, 111, 109, 97, 116, 111, 110]] ++ (x.states.take ia).flatMap stateW ++ [[115, 116, 97, 116, 101], xa.name, [58]] ++ (xa.eqs.take i).flatMap eqW) (some 1) ∧ g[ga.length]? = some (.box xa.cells)) (fun i => xa.eqs.length - i) (fun _ => ()) (fun ts _ ex s => ex = .exit 2 ∧ OutT [7, 36, 37, 38, 39, 40, 41, 42, 43] ts [] (fun g => PrAt 9 g 0 (ws ++ [[97, 117, 116, 111, 109, 97, 116, 111, 110]] ++ (x.states.take ia).flatMap stateW ++ [[115, 116, 97, 116, 101], xa.name, [58]] ++ xa.eqs.flatMap eqW) (some 1) ∧ g[ga.length]? = some (.box xa.cells)) s) 0 ⟨Nat.zero_le _, by simpa using p21, bs_21⟩ (by simp only [AtT, ats, Int.natCast_zero]) (by
          rintro ib jb gb db ⟨hib, pib, bgb0_0⟩
          clear hl0b; subst hblb
          have hgb0 : 0 < gb.length := (List.getElem?_eq_some_iff.1 pib.1).1
          by_cases hltb : ib < xa.eqs.length
          · have e1b : ((ib : Int) < (xa.eqs.length : Int)) := by omega
            obtain ⟨xb, hxb⟩ : ∃ yy, yy = xa.eqs[ib] := ⟨_, rfl⟩
            have e3b : (xa.eqs.map PEq.cells)[ib]? = some (PEq.cells xb) := by simp [hltb, hxb]
            have hmb : xb ∈ xa.eqs := by rw [hxb]; exact List.getElem_mem hltb
            have hqb := flat_take_len eqW xa.eqs (ib + 1)
            have hspb := flat_take eqW xa.eqs ib hltb
            rw [← hxb] at hspb
            rw [hspb] at hqb
            have kq := eq_p xb (hsa.2.2.1 xb hmb) (hra.1 xb hmb)
            have bt_0 : (gb ++ [Blk.box xb.cells])[gb.length]? = some (.box xb.cells) := heap_at0 _ _
            have bo_0 : (gb ++ [Blk.box xb.cells])[ga.length]? = some (.box xa.cells) := Boxes.app _ _ _ _ bgb0_0
            simp only [sims, core, pe, Nat.reduceAdd, Int.reduceBEq, Int.reduceBNe, Int.reduceLT, Int.reduceLE, effs, fx_66, ty, bt_0, bo_0, e1b, e3b]
            obtain ⟨E41, hE41, p41, o41, l41⟩ := pr_callO keepC kq (by simp [refsL, refs, xb.norefs]) (pib.app [.box xb.cells]) (by (try simp only [List.length_append, List.length_cons, List.length_nil] at hb); (try simp only [List.length_append, List.length_cons, List.length_nil] at hqa); (try simp only [List.length_append, List.length_cons, List.length_nil] at hqb); (try simp only [List.length_append, List.length_cons, List.length_nil]); omega)
            have bt_41 : (Eff.of (gb ++ [.box xb.cells]) E41)[gb.length]? = some (.box xb.cells) := o41 _ _ (by omega) bt_0
            have bo_41 : (Eff.of (gb ++ [.box xb.cells]) E41)[ga.length]? = some (.box xa.cells) := o41 _ _ (by omega) bo_0
            simp only [sims, core, pe, Nat.reduceAdd, Int.reduceBEq, Int.reduceBNe, Int.reduceLT, Int.reduceLE, effs, fx_66, ty, bt_41, bo_41, e1b, e3b, hE41, wrap_nat (show ib ≤ lenTop by omega)]
            clear hE41; generalize hh41 : Eff.of (gb ++ [.box xb.cells]) E41 = h41 at *; clear hh41
            exact .inl ⟨ib + 1, _, rfl, ⟨hltb, by rw [hspb]; simpa only [List.append_assoc, List.cons_append, List.nil_append] using p41, bo_41⟩, by simp only [AtT, ats, Int.natCast_zero], by (try simp only []); omega, by first | rfl | trivial⟩
          · have e1b : ¬ ((ib : Int) < (xa.eqs.length : Int)) := by omega
            simp only [sims, core, pe, Nat.reduceAdd, Int.reduceBEq, Int.reduceBNe, Int.reduceLT, Int.reduceLE, effs, fx_66, ty, e1b]
            have : xa.eqs.take ib = xa.eqs := List.take_of_length_le (by omega)
            rw [this] at pib
            exact .inr ⟨_, _, rfl, by simp, rfl, ⟨by simp only [AtT, ats], by simpa only [List.append_assoc, List.cons_append, List.nil_append] using pib, bgb0_0⟩⟩)
        obtain ⟨jb', Hb', db', ⟨pb', bb_0⟩, rfl⟩ := h2b.elim
        clear hl0b
        simp only [sims, core, pe, Nat.reduceAdd, Int.reduceBEq, Int.reduceBNe, Int.reduceLT, Int.reduceLE, effs, fx_66, ty, bb_0]
        generalize hblc : codeB PP cmp0 C lpC _ = fc; generalize hl0c : lpC fc _ = rc
        obtain ⟨exc, sc, rfl, rfl, h2c⟩ := lpC_inv (α := Nat) hl0c [9, 48, 49, 50, 51, 52, 53, 54, 55, 56, 57, 58, 59, 60, 61, 62, 63] (fun i => [(47, .int .i64 i)]) (fun i g => i ≤ xa.ways.length ∧ PrAt 9 g 0 (ws ++ [[97, 117, 116, 111, 109, 97, 116, 111, 110]] ++ (x.states.take ia).flatMap stateW ++ [[115, 116, 97, 116, 101], xa.name, [58]] ++ xa.eqs.flatMap eqW ++ (xa.ways.take i).flatMap wayW) (some 1)) (fun i => xa.ways.length - i) (fun _ => ()) (fun ts _ ex s => ex = .exit 4 ∧ OutT [9, 47, 48, 49, 50, 51, 52, 53, 54, 55, 56, 57, 58, 59, 60, 61, 62, 63] ts [] (fun g => PrAt 9 g 0 (ws ++ [[97, 117, 116, 111, 109, 97, 116, 111, 110]] ++ (x.states.take ia).flatMap stateW ++ [[115, 116, 97, 116, 101], xa.name, [58]] ++ xa.eqs.flatMap eqW ++ xa.ways.flatMap wayW) (some 1)) s) 0 ⟨Nat.zero_le _, by simpa using pb'⟩ (by simp only [AtT, ats, Int.natCast_zero]) (by
          rintro ic jc gc dc ⟨hic, pic⟩
          clear hl0c; subst hblc
          have hgc0 : 0 < gc.length := (List.getElem?_eq_some_iff.1 pic.1).1
          by_cases hltc : ic < xa.ways.length
          · have e1c : ((ic : Int) < (xa.ways.length : Int)) := by omega
            obtain ⟨xc, hxc⟩ : ∃ yy, yy = xa.ways[ic] := ⟨_, rfl⟩
            have e3c : (xa.ways.map PWay.cells)[ic]? = some (PWay.cells xc) := by simp [hltc, hxc]
            have hmc : xc ∈ xa.ways := by rw [hxc]; exact List.getElem_mem hltc
            have hqc := flat_take_len wayW xa.ways (ic + 1)
            have hspc := flat_take wayW xa.ways ic hltc
            rw [← hxc] at hspc
            rw [hspc] at hqc
            have kx := (prexpr_c xc.cond (hsa.2.2.2.2 xc hmc).1 (hra.2 xc hmc)).own
            have bt_0 : (gc ++ [Blk.box xc.cells])[gc.length]? = some (.box xc.cells) := heap_at0 _ _
            have hww : (wayW xc).length = 1 + xc.cond.words.length + 3 := by simp [wayW]; omega
            simp only [sims, core, pe, Nat.reduceAdd, Int.reduceBEq, Int.reduceBNe, Int.reduceLT, Int.reduceLE, effs, fx_66, ty, bt_0, e1c, e3c]
            obtain ⟨E61, hE61, p61, o61, l61⟩ := pr_callO keepC (show PrW 34 [.slice [[.str [117, 110, 116, 105, 108]]] .full] [[117, 110, 116, 105, 108]] from put_c [[117, 110, 116, 105, 108]] (by simp)).own rfl (pic.app [.box xc.cells]) (by (try simp only [List.length_append, List.length_cons, List.length_nil] at hb); (try simp only [List.length_append, List.length_cons, List.length_nil] at hqa); (try simp only [List.length_append, List.length_cons, List.length_nil] at hqc); (try simp only [List.length_append, List.length_cons, List.length_nil]); omega)
            have bt_61 : (Eff.of (gc ++ [.box xc.cells]) E61)[gc.length]? = some (.box xc.cells) := o61 _ _ (by omega) bt_0
            simp only [sims, core, pe, Nat.reduceAdd, Int.reduceBEq, Int.reduceBNe, Int.reduceLT, Int.reduceLE, effs, fx_66, ty, bt_61, e1c, e3c, hE61]
            clear hE61; generalize hh61 : Eff.of (gc ++ [.box xc.cells]) E61 = h61 at *; clear hh61
            obtain ⟨E62, hE62, p62, o62, l62⟩ := pr_callO keepC kx (by simp [refsL, refs, xc.cond.norefs]) p61 (by (try simp only [List.length_append, List.length_cons, List.length_nil] at hb); (try simp only [List.length_append, List.length_cons, List.length_nil] at hqa); (try simp only [List.length_append, List.length_cons, List.length_nil] at hqc); (try simp only [List.length_append, List.length_cons, List.length_nil]); omega)
            have bt_62 : (Eff.of h61 E62)[gc.length]? = some (.box xc.cells) := o62 _ _ (by omega) bt_61
            simp only [sims, core, pe, Nat.reduceAdd, Int.reduceBEq, Int.reduceBNe, Int.reduceLT, Int.reduceLE, effs, fx_66, ty, bt_62, e1c, e3c, hE62]
            clear hE62; generalize hh62 : Eff.of h61 E62 = h62 at *; clear hh62
            obtain ⟨E63, hE63, p63, o63, l63⟩ := pr_callO keepC (show PrW 34 [.slice [[.str [116, 104, 101, 110]], [.str xc.to], [.str [59]]] .full] [[116, 104, 101, 110], xc.to, [59]] from put_c [[116, 104, 101, 110], xc.to, [59]] (by simp)).own rfl p62 (by (try simp only [List.length_append, List.length_cons, List.length_nil] at hb); (try simp only [List.length_append, List.length_cons, List.length_nil] at hqa); (try simp only [List.length_append, List.length_cons, List.length_nil] at hqc); (try simp only [List.length_append, List.length_cons, List.length_nil]); omega)
            have bt_63 : (Eff.of h62 E63)[gc.length]? = some (.box xc.cells) := o63 _ _ (by omega) bt_62
            simp only [sims, core, pe, Nat.reduceAdd, Int.reduceBEq, Int.reduceBNe, Int.reduceLT, Int.reduceLE, effs, fx_66, ty, bt_63, e1c, e3c, hE63, wrap_nat (show ic ≤ lenTop by omega)]
            clear hE63; generalize hh63 : Eff.of h62 E63 = h63 at *; clear hh63
            exact .inl ⟨ic + 1, _, rfl, ⟨hltc, by rw [hspc, wayW]; simpa only [List.append_assoc, List.cons_append, List.nil_append] using p63⟩, by simp only [AtT, ats, Int.natCast_zero], by (try simp only []); omega, by first | rfl | trivial⟩
          · have e1c : ¬ ((ic : Int) < (xa.ways.length : Int)) := by omega
            simp only [sims, core, pe, Nat.reduceAdd, Int.reduceBEq, Int.reduceBNe, Int.reduceLT, Int.reduceLE, effs, fx_66, ty, e1c]
            have : xa.ways.take ic = xa.ways := List.take_of_length_le (by omega)
            rw [this] at pic
            exact .inr ⟨_, _, rfl, by simp, rfl, ⟨by simp only [AtT, ats], by simpa only [List.append_assoc, List.cons_append, List.nil_append] using pic⟩⟩)
        obtain ⟨jc', Hc', dc', pc', rfl⟩ := h2c.elim
        clear hl0c
        simp only [sims, core, pe, Nat.reduceAdd, Int.reduceBEq, Int.reduceBNe, Int.reduceLT, Int.reduceLE, effs, fx_66, ty, wrap_nat (show ia ≤ lenTop by omega)]
        exact .inl ⟨ia + 1, _, rfl, ⟨hlta, by rw [hspa, stateW]; simpa only [List.append_assoc, List.cons_append, List.nil_append] using pc'⟩, by simp only [AtT, ats, Int.natCast_zero], by (try simp only []); omega, by first | rfl | trivial⟩
      · have e1a : ¬ ((ia : Int) < (x.states.length : Int)) := by omega
        simp only [sims, core, pe, Nat.reduceAdd, Int.reduceBEq, Int.reduceBNe, Int.reduceLT, Int.reduceLE, effs, fx_66, ty, e1a]
        have : x.states.take ia = x.states := List.take_of_length_le (by omega)
        rw [this] at pia
        exact .inr ⟨_, _, rfl, by simp, rfl, ⟨by simp only [AtT, ats], by simpa only [List.append_assoc, List.cons_append, List.nil_append] using pia⟩⟩)
    obtain ⟨ja', Ha', da', pa', rfl⟩ := h2a.elim
    clear hl0a
    simp only [sims, core, pe, Nat.reduceAdd, Int.reduceBEq, Int.reduceBNe, Int.reduceLT, Int.reduceLE, effs, fx_66, ty]
    obtain ⟨E81, hE81, p81, o81, l81⟩ := pr_callO keepC (show PrW 34 [.slice [[.str [101, 110, 100]], [.str [59]]] .full] [[101, 110, 100], [59]] from put_c [[101, 110, 100], [59]] (by simp)).own rfl pa' (by (try simp only [List.length_append, List.length_cons, List.length_nil] at hb); (try simp only [List.length_append, List.length_cons, List.length_nil]); omega)
    simp only [sims, core, pe, Nat.reduceAdd, Int.reduceBEq, Int.reduceBNe, Int.reduceLT, Int.reduceLE, effs, fx_66, ty, hE81]
    clear hE81; generalize hh81 : Eff.of Ha' E81 = h81 at *; clear hh81
    exact fin_pr c (fun e => by cases e) (.inr rfl) rfl (t := 1) (fun _ e => Option.some.inj e) (fun e => by cases e) (by simpa only [List.append_assoc, List.cons_append, List.nil_append] using p81)
theorem node_p (n : PNode) (hs : n.Small) (hr : n.Rng) : PrW 36 [.agg n.cells] (nodeW n) := by
  intro ws tk h c hb
  have p0 := c.at
  have hpos : 0 < h.length := by
    cases tk with
    | none => exact (List.getElem?_eq_some_iff.1 p0.2).1
    | some t => exact (List.getElem?_eq_some_iff.1 p0.1).1
  have kl : PrV 35 [encStrs n.funs, .str [44]] (listW n.funs [44]) := list_c n.funs [44] hs.2.1.1
  have ki := names_p n.ins hs.2.2.1.1
  have ko := names_p n.outs hs.2.2.2.1.1
  have hl1 := hs.2.2.2.2.1
  unfold nodeW at hb ⊢
  have b_0 : (h ++ [Blk.box n.cells])[h.length]? = some (.box n.cells) := heap_at0 _ _
  refine C_finF rfl Go.Proofs.Tryz.func36 rfl (by kernel_rfl) (m := 51) rfl ?_; simp only [sims, core, pe, Nat.reduceAdd, Int.reduceBEq, Int.reduceBNe, Int.reduceLT, Int.reduceLE, Go.Proofs.Tryz.f36, effs, fx_36, ty]
  obtain ⟨E1, hE1, tt, htt, hnn, p1, o1, l1⟩ := pr_call keepC (show PrW 34 [.slice [[.str [110, 111, 100, 101]], [.str n.name]] .full] [[110, 111, 100, 101], n.name] from put_c [[110, 111, 100, 101], n.name] (by simp)) rfl (p0.app [.box n.cells]) (by (try simp only [List.length_append, List.length_cons, List.length_nil] at hb); (try simp only [List.length_append, List.length_cons, List.length_nil]); omega)
  have b_1 : (Eff.of (h ++ [.box n.cells]) E1)[h.length]? = some (.box n.cells) := o1 _ _ (by omega) b_0
  simp only [sims, core, pe, Nat.reduceAdd, Int.reduceBEq, Int.reduceBNe, Int.reduceLT, Int.reduceLE, effs, fx_36, ty, b_1, len_encStrs, hE1]
  clear hE1; generalize hh1 : Eff.of (h ++ [.box n.cells]) E1 = h1 at *; clear hh1
  by_cases hz : n.funs.length = 0
  · have e0 : decide ((0 : Int) < (n.funs.length : Int)) = false := decide_eq_false (by omega)
    have hbr : brW n.funs = [] := if_pos hz
    rw [hbr] at hb ⊢
    simp only [List.append_nil] at hb ⊢
    simp only [sims, core, pe, Nat.reduceAdd, Int.reduceBEq, Int.reduceBNe, Int.reduceLT, Int.reduceLE, effs, fx_36, ty, b_1, e0, len_encStrs]
    obtain ⟨E2, hE2, p2, o2, l2⟩ := pr_callO keepC ki rfl p1 (by (try simp only [List.length_append, List.length_cons, List.length_nil] at hb); (try simp only [List.length_append, List.length_cons, List.length_nil]); omega)
    have b_2 : (Eff.of h1 E2)[h.length]? = some (.box n.cells) := o2 _ _ (by omega) b_1
    simp only [sims, core, pe, Nat.reduceAdd, Int.reduceBEq, Int.reduceBNe, Int.reduceLT, Int.reduceLE, effs, fx_36, ty, b_2, e0, len_encStrs, hE2]
    clear hE2; generalize hh2 : Eff.of h1 E2 = h2 at *; clear hh2
    obtain ⟨E3, hE3, p3, o3, l3⟩ := pr_callO keepC (show PrW 34 [.slice [[.str [61]]] .full] [[61]] from put_c [[61]] (by simp)).own rfl p2 (by (try simp only [List.length_append, List.length_cons, List.length_nil] at hb); (try simp only [List.length_append, List.length_cons, List.length_nil]); omega)
    have b_3 : (Eff.of h2 E3)[h.length]? = some (.box n.cells) := o3 _ _ (by omega) b_2
    simp only [sims, core, pe, Nat.reduceAdd, Int.reduceBEq, Int.reduceBNe, Int.reduceLT, Int.reduceLE, effs, fx_36, ty, b_3, e0, len_encStrs, hE3]
    clear hE3; generalize hh3 : Eff.of h2 E3 = h3 at *; clear hh3
    obtain ⟨E4, hE4, p4, o4, l4⟩ := pr_callO keepC ko rfl p3 (by (try simp only [List.length_append, List.length_cons, List.length_nil] at hb); (try simp only [List.length_append, List.length_cons, List.length_nil]); omega)
    have b_4 : (Eff.of h3 E4)[h.length]? = some (.box n.cells) := o4 _ _ (by omega) b_3
    simp only [sims, core, pe, Nat.reduceAdd, Int.reduceBEq, Int.reduceBNe, Int.reduceLT, Int.reduceLE, effs, fx_36, ty, b_4, e0, len_encStrs, hE4]
    clear hE4; generalize hh4 : Eff.of h3 E4 = h4 at *; clear hh4
    obtain ⟨E5, hE5, p5, o5, l5⟩ := pr_callO keepC (show PrW 34 [.slice [[.str [119, 104, 101, 114, 101]]] .full] [[119, 104, 101, 114, 101]] from put_c [[119, 104, 101, 114, 101]] (by simp)).own rfl p4 (by (try simp only [List.length_append, List.length_cons, List.length_nil] at hb); (try simp only [List.length_append, List.length_cons, List.length_nil]); omega)
    have b_5 : (Eff.of h4 E5)[h.length]? = some (.box n.cells) := o5 _ _ (by omega) b_4
    simp only [sims, core, pe, Nat.reduceAdd, Int.reduceBEq, Int.reduceBNe, Int.reduceLT, Int.reduceLE, effs, fx_36, ty, b_5, e0, len_encStrs, hE5]
    clear hE5; generalize hh5 : Eff.of h4 E5 = h5 at *; clear hh5
    generalize hbla : codeB PP cmp0 C lpC _ = fa; generalize hl0a : lpC fa _ = ra
    obtain ⟨exa, sa, rfl, rfl, h2a⟩ := lpC_inv (α := Nat) hl0a [5, 43, 44, 45, 46, 47, 48, 49] (fun i => [(42, .int .i64 i)]) (fun i g => i ≤ n.items.length ∧ PrAt 9 g 0 (ws ++ [[110, 111, 100, 101], n.name] ++ namesW n.ins ++ [[61]] ++ namesW n.outs ++ [[119, 104, 101, 114, 101]] ++ (n.items.take i).flatMap itemW) (some tt)) (fun i => n.items.length - i) (fun _ => ()) (fun ts _ ex s => ex = .exit 0 ∧ OutT [5, 42, 43, 44, 45, 46, 47, 48, 49] ts [] (fun g => PrAt 9 g 0 (ws ++ [[110, 111, 100, 101], n.name] ++ namesW n.ins ++ [[61]] ++ namesW n.outs ++ [[119, 104, 101, 114, 101]] ++ n.items.flatMap itemW) (some tt)) s) 0 ⟨Nat.zero_le _, by simpa using p5⟩ (by simp only [AtT, ats, Int.natCast_zero]) (by
      rintro ia ja ga da ⟨hia, pia⟩
      clear hl0a; subst hbla
      have hga0 : 0 < ga.length := (List.getElem?_eq_some_iff.1 pia.1).1
      by_cases hlta : ia < n.items.length
      · have e1a : ((ia : Int) < (n.items.length : Int)) := by omega
        obtain ⟨xa, hxa⟩ : ∃ yy, yy = n.items[ia] := ⟨_, rfl⟩
        have e3a : (n.items.map PItem.cells)[ia]? = some (PItem.cells xa) := by simp [hlta, hxa]
        have hma : xa ∈ n.items := by rw [hxa]; exact List.getElem_mem hlta
        have hqa := flat_take_len itemW n.items (ia + 1)
        have hspa := flat_take itemW n.items ia hlta
        rw [← hxa] at hspa
        rw [hspa] at hqa
        have kt := item_p xa (hs.2.2.2.2.2 xa hma) (hr xa hma)
        have bt_0 : (ga ++ [Blk.box xa.cells])[ga.length]? = some (.box xa.cells) := heap_at0 _ _
        simp only [sims, core, pe, Nat.reduceAdd, Int.reduceBEq, Int.reduceBNe, Int.reduceLT, Int.reduceLE, effs, fx_36, ty, bt_0, e1a, e3a]
        obtain ⟨E41, hE41, p41, o41, l41⟩ := pr_callO keepC kt (by simp [refsL, refs, xa.norefs]) (pia.app [.box xa.cells]) (by (try simp only [List.length_append, List.length_cons, List.length_nil] at hb); (try simp only [List.length_append, List.length_cons, List.length_nil] at hqa); (try simp only [List.length_append, List.length_cons, List.length_nil]); omega)
        have bt_41 : (Eff.of (ga ++ [.box xa.cells]) E41)[ga.length]? = some (.box xa.cells) := o41 _ _ (by omega) bt_0
        simp only [sims, core, pe, Nat.reduceAdd, Int.reduceBEq, Int.reduceBNe, Int.reduceLT, Int.reduceLE, effs, fx_36, ty, bt_41, e1a, e3a, hE41, wrap_nat (show ia ≤ lenTop by omega)]
        clear hE41; generalize hh41 : Eff.of (ga ++ [.box xa.cells]) E41 = h41 at *; clear hh41
        exact .inl ⟨ia + 1, _, rfl, ⟨hlta, by rw [hspa]; simpa only [List.append_assoc, List.cons_append, List.nil_append] using p41⟩, by simp only [AtT, ats, Int.natCast_zero], by (try simp only []); omega, by first | rfl | trivial⟩
      · have e1a : ¬ ((ia : Int) < (n.items.length : Int)) := by omega
        simp only [sims, core, pe, Nat.reduceAdd, Int.reduceBEq, Int.reduceBNe, Int.reduceLT, Int.reduceLE, effs, fx_36, ty, e1a]
        have : n.items.take ia = n.items := List.take_of_length_le (by omega)
        rw [this] at pia
        exact .inr ⟨_, _, rfl, by simp, rfl, ⟨by simp only [AtT, ats], by simpa only [List.append_assoc, List.cons_append, List.nil_append] using pia⟩⟩)
    obtain ⟨ja', Ha', da', pa', rfl⟩ := h2a.elim
    clear hl0a
    simp only [sims, core, pe, Nat.reduceAdd, Int.reduceBEq, Int.reduceBNe, Int.reduceLT, Int.reduceLE, effs, fx_36, ty]
    obtain ⟨E81, hE81, p81, o81, l81⟩ := pr_callO keepC (show PrW 34 [.slice [[.str [101, 110, 100]]] .full] [[101, 110, 100]] from put_c [[101, 110, 100]] (by simp)).own rfl pa' (by (try simp only [List.length_append, List.length_cons, List.length_nil] at hb); (try simp only [List.length_append, List.length_cons, List.length_nil]); omega)
    simp only [sims, core, pe, Nat.reduceAdd, Int.reduceBEq, Int.reduceBNe, Int.reduceLT, Int.reduceLE, effs, fx_36, ty, hE81]
    clear hE81; generalize hh81 : Eff.of Ha' E81 = h81 at *; clear hh81
    exact fin_pr c (fun _ => by simp) (.inr rfl) rfl htt (fun e => by have := hnn e; simp only [List.length_append] at this; omega) (by simpa only [List.append_assoc, List.cons_append, List.nil_append] using p81)
  · have e0 : decide ((0 : Int) < (n.funs.length : Int)) = true := decide_eq_true (by omega)
    have hbr : brW n.funs = [[91]] ++ listW n.funs [44] ++ [[93]] := if_neg hz
    rw [hbr] at hb ⊢
    simp only [sims, core, pe, Nat.reduceAdd, Int.reduceBEq, Int.reduceBNe, Int.reduceLT, Int.reduceLE, effs, fx_36, ty, b_1, e0, len_encStrs]
    obtain ⟨E2, hE2, p2, o2, l2⟩ := pr_callO keepC (show PrW 34 [.slice [[.str [91]]] .full] [[91]] from put_c [[91]] (by simp)).own rfl p1 (by (try simp only [List.length_append, List.length_cons, List.length_nil] at hb); (try simp only [List.length_append, List.length_cons, List.length_nil]); omega)
    have b_2 : (Eff.of h1 E2)[h.length]? = some (.box n.cells) := o2 _ _ (by omega) b_1
    simp only [sims, core, pe, Nat.reduceAdd, Int.reduceBEq, Int.reduceBNe, Int.reduceLT, Int.reduceLE, effs, fx_36, ty, b_2, e0, len_encStrs, hE2]
    clear hE2; generalize hh2 : Eff.of h1 E2 = h2 at *; clear hh2
    obtain ⟨E3, hE3, p3, o3, l3⟩ := pr_callO keepC kl rfl p2 (by (try simp only [List.length_append, List.length_cons, List.length_nil] at hb); (try simp only [List.length_append, List.length_cons, List.length_nil]); omega)
    have b_3 : (Eff.of h2 E3)[h.length]? = some (.box n.cells) := o3 _ _ (by omega) b_2
    simp only [sims, core, pe, Nat.reduceAdd, Int.reduceBEq, Int.reduceBNe, Int.reduceLT, Int.reduceLE, effs, fx_36, ty, b_3, e0, len_encStrs, hE3]
    clear hE3; generalize hh3 : Eff.of h2 E3 = h3 at *; clear hh3
    obtain ⟨E4, hE4, p4, o4, l4⟩ := pr_callO keepC (show PrW 34 [.slice [[.str [93]]] .full] [[93]] from put_c [[93]] (by simp)).own rfl p3 (by (try simp only [List.length_append, List.length_cons, List.length_nil] at hb); (try simp only [List.length_append, List.length_cons, List.length_nil]); omega)
    have b_4 : (Eff.of h3 E4)[h.length]? = some (.box n.cells) := o4 _ _ (by omega) b_3
    simp only [sims, core, pe, Nat.reduceAdd, Int.reduceBEq, Int.reduceBNe, Int.reduceLT, Int.reduceLE, effs, fx_36, ty, b_4, e0, len_encStrs, hE4]
    clear hE4; generalize hh4 : Eff.of h3 E4 = h4 at *; clear hh4
    obtain ⟨E5, hE5, p5, o5, l5⟩ := pr_callO keepC ki rfl p4 (by (try simp only [List.length_append, List.length_cons, List.length_nil] at hb); (try simp only [List.length_append, List.length_cons, List.length_nil]); omega)
    have b_5 : (Eff.of h4 E5)[h.length]? = some (.box n.cells) := o5 _ _ (by omega) b_4
    simp only [sims, core, pe, Nat.reduceAdd, Int.reduceBEq, Int.reduceBNe, Int.reduceLT, Int.reduceLE, effs, fx_36, ty, b_5, e0, len_encStrs, hE5]
    clear hE5; generalize hh5 : Eff.of h4 E5 = h5 at *; clear hh5
    obtain ⟨E6, hE6, p6, o6, l6⟩ := pr_callO keepC (show PrW 34 [.slice [[.str [61]]] .full] [[61]] from put_c [[61]] (by simp)).own rfl p5 (by (try simp only [List.length_append, List.length_cons, List.length_nil] at hb); (try simp only [List.length_append, List.length_cons, List.length_nil]); omega)
    have b_6 : (Eff.of h5 E6)[h.length]? = some (.box n.cells) := o6 _ _ (by omega) b_5
    simp only [sims, core, pe, Nat.reduceAdd, Int.reduceBEq, Int.reduceBNe, Int.reduceLT, Int.reduceLE, effs, fx_36, ty, b_6, e0, len_encStrs, hE6]
    clear hE6; generalize hh6 : Eff.of h5 E6 = h6 at *; clear hh6
    obtain ⟨E7, hE7, p7, o7, l7⟩ := pr_callO keepC ko rfl p6 (by (try simp only [List.length_append, List.length_cons, List.length_nil] at hb); (try simp only [List.length_append, List.length_cons, List.length_nil]); omega)
    have b_7 : (Eff.of h6 E7)[h.length]? = some (.box n.cells) := o7 _ _ (by omega) b_6
    simp only [sims, core, pe, Nat.reduceAdd, Int.reduceBEq, Int.reduceBNe, Int.reduceLT, Int.reduceLE, effs, fx_36, ty, b_7, e0, len_encStrs, hE7]
    clear hE7; generalize hh7 : Eff.of h6 E7 = h7 at *; clear hh7
    obtain ⟨E8, hE8, p8, o8, l8⟩ := pr_callO keepC (show PrW 34 [.slice [[.str [119, 104, 101, 114, 101]]] .full] [[119, 104, 101, 114, 101]] from put_c [[119, 104, 101, 114, 101]] (by simp)).own rfl p7 (by (try simp only [List.length_append, List.length_cons, List.length_nil] at hb); (try simp only [List.length_append, List.length_cons, List.length_nil]); omega)
    have b_8 : (Eff.of h7 E8)[h.length]? = some (.box n.cells) := o8 _ _ (by omega) b_7
    simp only [sims, core, pe, Nat.reduceAdd, Int.reduceBEq, Int.reduceBNe, Int.reduceLT, Int.reduceLE, effs, fx_36, ty, b_8, e0, len_encStrs, hE8]
    clear hE8; generalize hh8 : Eff.of h7 E8 = h8 at *; clear hh8
    generalize hbla : codeB PP cmp0 C lpC _ = fa; generalize hl0a : lpC fa _ = ra
    obtain ⟨exa, sa, rfl, rfl, h2a⟩ := lpC_inv (α := Nat) hl0a [5, 43, 44, 45, 46, 47, 48, 49] (fun i => [(42, .int .i64 i)]) (fun i g => i ≤ n.items.length ∧ PrAt 9 g 0 (ws ++ [[110, 111, 100, 101], n.name] ++ [[91]] ++ listW n.funs [44] ++ [[93]] ++ namesW n.ins ++ [[61]] ++ namesW n.outs ++ [[119, 104, 101, 114, 101]] ++ (n.items.take i).flatMap itemW) (some tt)) (fun i => n.items.length - i) (fun _ => ()) (fun ts _ ex s => ex = .exit 0 ∧ OutT [5, 42, 43, 44, 45, 46, 47, 48, 49] ts [] (fun g => PrAt 9 g 0 (ws ++ [[110, 111, 100, 101], n.name] ++ [[91]] ++ listW n.funs [44] ++ [[93]] ++ namesW n.ins ++ [[61]] ++ namesW n.outs ++ [[119, 104, 101, 114, 101]] ++ n.items.flatMap itemW) (some tt)) s) 0 ⟨Nat.zero_le _, by simpa using p8⟩ (by simp only [AtT, ats, Int.natCast_zero]) (by
      rintro ia ja ga da ⟨hia, pia⟩
      clear hl0a; subst hbla
      have hga0 : 0 < ga.length := (List.getElem?_eq_some_iff.1 pia.1).1
      by_cases hlta : ia < n.items.length
      · have e1a : ((ia : Int) < (n.items.length : Int)) := by omega
        obtain ⟨xa, hxa⟩ : ∃ yy, yy = n.items[ia] := ⟨_, rfl⟩
        have e3a : (n.items.map PItem.cells)[ia]? = some (PItem.cells xa) := by simp [hlta, hxa]
        have hma : xa ∈ n.items := by rw [hxa]; exact List.getElem_mem hlta
        have hqa := flat_take_len itemW n.items (ia + 1)
        have hspa := flat_take itemW n.items ia hlta
        rw [← hxa] at hspa
        rw [hspa] at hqa
        have kt := item_p xa (hs.2.2.2.2.2 xa hma) (hr xa hma)
        have bt_0 : (ga ++ [Blk.box xa.cells])[ga.length]? = some (.box xa.cells) := heap_at0 _ _
        simp only [sims, core, pe, Nat.reduceAdd, Int.reduceBEq, Int.reduceBNe, Int.reduceLT, Int.reduceLE, effs, fx_36, ty, bt_0, e1a, e3a]
        obtain ⟨E41, hE41, p41, o41, l41⟩ := pr_callO keepC kt (by simp [refsL, refs, xa.norefs]) (pia.app [.box xa.cells]) (by (try simp only [List.length_append, List.length_cons, List.length_nil] at hb); (try simp only [List.length_append, List.length_cons, List.length_nil] at hqa); (try simp only [List.length_append, List.length_cons, List.length_nil]); omega)
        have bt_41 : (Eff.of (ga ++ [.box xa.cells]) E41)[ga.length]? = some (.box xa.cells) := o41 _ _ (by omega) bt_0
        simp only [sims, core, pe, Nat.reduceAdd, Int.reduceBEq, Int.reduceBNe, Int.reduceLT, Int.reduceLE, effs, fx_36, ty, bt_41, e1a, e3a, hE41, wrap_nat (show ia ≤ lenTop by omega)]
        clear hE41; generalize hh41 : Eff.of (ga ++ [.box xa.cells]) E41 = h41 at *; clear hh41
        exact .inl ⟨ia + 1, _, rfl, ⟨hlta, by rw [hspa]; simpa only [List.append_assoc, List.cons_append, List.nil_append] using p41⟩, by simp only [AtT, ats, Int.natCast_zero], by (try simp only []); omega, by first | rfl | trivial⟩
      · have e1a : ¬ ((ia : Int) < (n.items.length : Int)) := by omega
        simp only [sims, core, pe, Nat.reduceAdd, Int.reduceBEq, Int.reduceBNe, Int.reduceLT, Int.reduceLE, effs, fx_36, ty, e1a]
        have : n.items.take ia = n.items := List.take_of_length_le (by omega)
        rw [this] at pia
        exact .inr ⟨_, _, rfl, by simp, rfl, ⟨by simp only [AtT, ats], by simpa only [List.append_assoc, List.cons_append, List.nil_append] using pia⟩⟩)
    obtain ⟨ja', Ha', da', pa', rfl⟩ := h2a.elim
    clear hl0a
    simp only [sims, core, pe, Nat.reduceAdd, Int.reduceBEq, Int.reduceBNe, Int.reduceLT, Int.reduceLE, effs, fx_36, ty]
    obtain ⟨E81, hE81, p81, o81, l81⟩ := pr_callO keepC (show PrW 34 [.slice [[.str [101, 110, 100]]] .full] [[101, 110, 100]] from put_c [[101, 110, 100]] (by simp)).own rfl pa' (by (try simp only [List.length_append, List.length_cons, List.length_nil] at hb); (try simp only [List.length_append, List.length_cons, List.length_nil]); omega)
    simp only [sims, core, pe, Nat.reduceAdd, Int.reduceBEq, Int.reduceBNe, Int.reduceLT, Int.reduceLE, effs, fx_36, ty, hE81]
    clear hE81; generalize hh81 : Eff.of Ha' E81 = h81 at *; clear hh81
    exact fin_pr c (fun _ => by simp) (.inr rfl) rfl htt (fun e => by have := hnn e; simp only [List.length_append] at this; omega) (by simpa only [List.append_assoc, List.cons_append, List.nil_append] using p81)
end Go.Ab
