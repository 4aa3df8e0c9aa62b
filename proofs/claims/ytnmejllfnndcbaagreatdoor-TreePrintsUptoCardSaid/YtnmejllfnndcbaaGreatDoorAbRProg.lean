/- The reference: a program's text. -/
import Derived.Test.YtnmejllfnndcbaaGreatDoorAbPrint
set_option linter.unusedSimpArgs false
set_option linter.unusedVariables false
namespace Go.Ab
open Go Go.Ab.Tab
set_option maxRecDepth 100000
set_option maxHeartbeats 4000000
set_option linter.unusedSimpArgs false
theorem J_map (L : List (List Str)) (h : ∀ x ∈ L, x ≠ []) : J (L.map J) = J L.flatten := by
  induction L with
  | nil => rfl
  | cons x r ih =>
    have hr := ih (fun y hy => h y (by simp [hy]))
    cases r with
    | nil => simp [J_one]
    | cons y q =>
      have hy := h y (by simp)
      rw [List.map_cons, J_cons _ _ (by simp), hr]
      show _ = J (x ++ (y :: q).flatten)
      rw [J_app x _ (h x (by simp)) (by simp [hy])]
theorem enumW_ne (t : PEnum) : enumW t ≠ [] := by simp [enumW]
theorem nodeW_ne (n : PNode) : nodeW n ≠ [] := by simp [nodeW]
theorem itemW_ne (x : PItem) : itemW x ≠ [] := by
  unfold itemW
  split
  · exact eqW_ne _
  · simp
theorem J_take (l : List Str) (i : Nat) (h : i < l.length) : J (l.take (i + 1)) = if i = 0 then l[i] else J (l.take i) ++ 32 :: l[i] := by
  rw [List.take_succ_eq_append_getElem h]
  cases i with
  | zero => simp [J_one]
  | succ i =>
    rw [if_neg (by omega), J_app _ _ (by intro e; have := congrArg List.length e; rw [List.length_take] at this; simp only [List.length_nil] at this; omega) (by simp), J_one]
theorem J_take_len (l : List Str) (i : Nat) : (J (l.take i)).length ≤ (J l).length := by
  by_cases h : i < l.length
  · by_cases h0 : i = 0
    · subst h0; simp [J_nil]
    · have h1 : l.take i ≠ [] := by intro e; have := congrArg List.length e; rw [List.length_take] at this; simp only [List.length_nil] at this; omega
      have h2 : l.drop i ≠ [] := by intro e; have := congrArg List.length e; rw [List.length_drop] at this; simp only [List.length_nil] at this; omega
      have := J_app (l.take i) (l.drop i) h1 h2
      rw [List.take_append_drop] at this
      rw [this, List.length_append]; omega
  · rw [List.take_of_length_le (by omega)]; omega
def outL (p : PProg) : List Str := p.enums.map (fun t => J (enumW t)) ++ p.nodes.map (fun n => J (nodeW n))
theorem outL_J (p : PProg) : J (outL p) = J (progW p) := by
  have h := J_map (p.enums.map enumW ++ p.nodes.map nodeW) (by
    intro x hx
    rcases List.mem_append.1 hx with hx | hx
    · obtain ⟨t, _, rfl⟩ := List.mem_map.1 hx; exact enumW_ne t
    · obtain ⟨t, _, rfl⟩ := List.mem_map.1 hx; exact nodeW_ne t)
  have h1 : (p.enums.map enumW ++ p.nodes.map nodeW).map J = outL p := by simp [outL, List.map_map, Function.comp_def]
  have h2 : (p.enums.map enumW ++ p.nodes.map nodeW).flatten = progW p := by simp [progW, List.flatMap]
  rw [h1, h2] at h
  exact h
theorem enumJ (t : PEnum) (h : ¬ t.cons.length = 0) : J (enumW t) = 116 :: 121 :: 112 :: 101 :: 32 :: (t.name ++ 32 :: 61 :: 32 :: (LS [124] t.cons ++ [32, 59])) := by
  have hne := listW_ne t.cons [124] h
  unfold enumW
  rw [listW_J]
  simp only [hne, J_one, J_cons, J_app, List.cons_append, List.nil_append, List.append_assoc, ne_eq, List.cons_ne_nil, List.append_eq_nil_iff, and_false, false_and, not_false_eq_true]
def itS (x : PItem) : Str := 32 :: J (itemW x)
def fS (l : List Str) : Str := if l.length = 0 then [] else 32 :: 91 :: 32 :: (LS [44] l ++ [32, 93])
theorem nodeJ (n : PNode) : J (nodeW n) = 110 :: 111 :: 100 :: 101 :: 32 :: (n.name ++ (fS n.funs ++ 32 :: (J (namesW n.ins) ++ 32 :: 61 :: 32 :: (J (namesW n.outs) ++ 32 :: 119 :: 104 :: 101 :: 114 :: 101 :: (n.items.flatMap itS ++ [32, 101, 110, 100]))))) := by
  have h1 : (fun x => 32 :: J (itemW x)) = itS := rfl
  have n1 : namesW n.ins ≠ [] := by simp [namesW]
  have n2 : namesW n.outs ≠ [] := by simp [namesW]
  unfold nodeW
  rw [J_app _ [[101, 110, 100]] (by simp) (by simp), J_flat itemW itemW_ne n.items _ (by simp), h1]
  unfold fS brW
  split
  · simp only [n1, n2, J_one, J_cons, J_app, List.cons_append, List.nil_append, List.append_assoc, ne_eq, List.cons_ne_nil, List.append_eq_nil_iff, and_false, false_and, not_false_eq_true]
  · rename_i hz
    have hne := listW_ne n.funs [44] hz
    rw [listW_J]
    simp only [n1, n2, hne, J_one, J_cons, J_app, List.cons_append, List.nil_append, List.append_assoc, ne_eq, List.cons_ne_nil, List.append_eq_nil_iff, and_false, false_and, not_false_eq_true]
theorem list_free (l : List Str) (c : UInt8) (hl : consT l ≤ 1048576) (H : AHeap) : callA C H 48 [encStrs l, .str [c]] = some (.ret (.str (LS [c] l)) .same) := by
  have h1 := consT_eq l
  have h2 := T_len l
  have m2 : lenTop = 1099511627776 := rfl
  exact callA_tk (tk := .free) rfl (fun _ => rfl) (rlist_c l [c] (by simp only [List.length_cons, List.length_nil]; omega)) rfl (fun t h => by cases h)
theorem rtext_c (p : PProg) (hs : p.Small) (hr : p.Rng) (hb : p.bulk ≤ 1048576) (hc : ∀ t ∈ p.enums, ¬ t.cons.length = 0) : Ret C 38 [.agg p.cells] (.str (J (progW p))) := by
  refine Ret.mk (by simp [refsL, refs, p.norefs]) rfl ?_
  have m1 : strMax = 4611686018427387904 := rfl
  have m2 : lenTop = 1099511627776 := rfl
  have hl1 := hs.1
  have hl2 := hs.2.2.1
  have hbe : (∀ t ∈ p.enums, t.bulk ≤ 1048576) ∧ ∀ n ∈ p.nodes, n.bulk ≤ 1048576 := by
    unfold PProg.bulk at hb
    exact ⟨fun t ht => by have := sumOf_mem PEnum.bulk p.enums t ht; omega, fun n hn => by have := sumOf_mem PNode.bulk p.nodes n hn; omega⟩
  have hsum : p.enums.length + p.nodes.length ≤ 1048576 := by
    have a := sumOf_len PEnum.bulk PEnum.bulk_pos p.enums
    have c := sumOf_len PNode.bulk PNode.bulk_pos p.nodes
    unfold PProg.bulk at hb; omega
  rw [← outL_J]
  rw [C_fn rfl Go.Proofs.Tryz.func38 rfl (by kernel_rfl) (m := 113) rfl]; simp only [sims, core, pe, Nat.reduceAdd, Int.reduceBEq, Int.reduceBNe, Int.reduceLT, Int.reduceLE, Go.Proofs.Tryz.f38, fx_38, ty]
  generalize hb : codeB PP cmp0 C lpC _ = f; generalize hl : lpC f _ = r
  obtain ⟨ex, s', rfl, rfl, v', h2⟩ := lpC_inv (α := Nat × AVal) hl [11, 12, 13, 14, 15, 16, 17, 18, 19, 20, 21, 22, 23, 24, 25, 26, 27, 28, 29, 30, 31, 32, 33, 34, 35, 36, 37] (fun a => [(4, .int .i64 a.1), (3, a.2)]) (fun a h => a.1 ≤ p.enums.length ∧ Grow h a.2 (encS ((p.enums.map fun t => J (enumW t)).take a.1)) 9 ∧ h[0]? = some (.box p.cells)) (fun a => p.enums.length - a.1) (fun _ => ())
    (fun ts _ ex s => ex = .exit 0 ∧ ∃ v, OutT [4, 11, 12, 13, 14, 15, 16, 17, 18, 19, 20, 21, 22, 23, 24, 25, 26, 27, 28, 29, 30, 31, 32, 33, 34, 35, 36, 37] ts [(3, v)] (fun h => Grow h v (encS (p.enums.map fun t => J (enumW t))) 9 ∧ h[0]? = some (.box p.cells)) s) (0, .slice [] .full) ⟨Nat.zero_le _, .inl ⟨rfl, rfl⟩, rfl⟩ (by simp only [AtT, ats, Int.natCast_zero]) (by
      rintro ⟨i, v⟩ j h d ⟨hi, hg, q0⟩
      clear hl; subst hb
      simp only at hi hg
      have hp0 : decide (0 < h.length) = true := decide_eq_true (List.getElem?_eq_some_iff.1 q0).1
      by_cases hlt : i < p.enums.length
      · have e1 : ((i : Int) < (p.enums.length : Int)) := by omega
        obtain ⟨x, hx⟩ : ∃ y, y = p.enums[i] := ⟨_, rfl⟩
        have e3 : (p.enums.map PEnum.cells)[i]? = some (PEnum.cells x) := by simp [hlt, hx]
        have hm : x ∈ p.enums := by rw [hx]; exact List.getElem_mem hlt
        have hcx : consT x.cons ≤ 1048576 ∧ x.name.length ≤ 1048576 := by have := hbe.1 x hm; unfold PEnum.bulk at this; unfold consT; omega
        have cl := list_free x.cons 124 hcx.1
        have hLS := LS_len [124] x.cons
        have hcE := consT_eq x.cons
        have hcT := T_len x.cons
        simp only [List.length_cons, List.length_nil] at hLS
        obtain ⟨v1, E1, ha1, hg1, hB1⟩ := app_grow ao_33 (fs := [[.str (J (enumW x))]]) hg (by rw [encS_len]; simp; omega) (encS_one _) (by intro c hc; simp only [List.mem_cons, List.not_mem_nil, or_false] at hc; subst hc; rfl) (by simp)
        rw [enumJ x (hc x hm)] at ha1
        have htk : ((p.enums.map fun t => J (enumW t)).take (i + 1)) = (p.enums.map fun t => J (enumW t)).take i ++ [J (enumW x)] := by
          rw [List.take_succ_eq_append_getElem (by simpa using hlt)]; simp [hx]
        simp only [sims, core, pe, Nat.reduceAdd, Int.reduceBEq, Int.reduceBNe, Int.reduceLT, Int.reduceLE, effs, fx_38, ty, e1, e3, q0, hp0, cl]
        rw [bin_cat]
        case hl => ((try simp only [List.length_append, List.length_cons, List.length_nil]); omega)
        simp only [sims, core, pe, Nat.reduceAdd, Int.reduceBEq, Int.reduceBNe, Int.reduceLT, Int.reduceLE, effs, fx_38, ty, e3, q0, hp0, cl]
        rw [bin_cat]
        case hl => ((try simp only [List.length_append, List.length_cons, List.length_nil]); omega)
        simp only [sims, core, pe, Nat.reduceAdd, Int.reduceBEq, Int.reduceBNe, Int.reduceLT, Int.reduceLE, effs, fx_38, ty, e3, q0, hp0, cl]
        rw [bin_cat]
        case hl => ((try simp only [List.length_append, List.length_cons, List.length_nil]); omega)
        simp only [sims, core, pe, Nat.reduceAdd, Int.reduceBEq, Int.reduceBNe, Int.reduceLT, Int.reduceLE, effs, fx_38, ty, e3, q0, hp0, cl]
        rw [bin_cat]
        case hl => ((try simp only [List.length_append, List.length_cons, List.length_nil]); omega)
        simp only [sims, core, pe, Nat.reduceAdd, Int.reduceBEq, Int.reduceBNe, Int.reduceLT, Int.reduceLE, effs, fx_38, ty, e3, q0, hp0, cl, ha1, stepD_eff, wrap_nat (show i ≤ lenTop by omega)]
        exact .inl ⟨(i + 1, v1), _, rfl, ⟨hlt, by rw [htk, encS_app]; exact hg1, hB1 _ _ q0⟩, by simp only [AtT, ats, Int.natCast_zero], by (try simp only []); omega, by first | rfl | trivial⟩
      · have e1 : ¬ ((i : Int) < (p.enums.length : Int)) := by omega
        simp only [sims, core, pe, Nat.reduceAdd, Int.reduceBEq, Int.reduceBNe, Int.reduceLT, Int.reduceLE, effs, fx_38, ty, e1, q0]
        have : (p.enums.map fun t => J (enumW t)).take i = p.enums.map fun t => J (enumW t) := List.take_of_length_le (by simp only [List.length_map]; omega)
        rw [this] at hg
        exact .inr ⟨_, _, rfl, by simp, rfl, v, by simp only [AtT, ats], hg, q0⟩)
  obtain ⟨j1, H1, d1, ⟨hg1, q1⟩, rfl⟩ := h2.elim
  clear hl
  simp only [sims, core, pe, Nat.reduceAdd, Int.reduceBEq, Int.reduceBNe, Int.reduceLT, Int.reduceLE, effs, fx_38, ty, q1]
  generalize hb : codeB PP cmp0 C lpC _ = f; generalize hl : lpC f _ = r
  obtain ⟨ex, s', rfl, rfl, v2, h2⟩ := lpC_inv (α := Nat × AVal) hl [6, 7, 8, 38, 39, 40, 41, 42, 43, 44, 45, 46, 47, 48, 49, 50, 51, 52, 53, 54, 55, 56, 57, 58, 59, 60, 61, 62, 63, 64, 65, 66, 67, 68, 69, 70, 71, 72, 73, 74, 75, 76, 77, 78, 79, 80, 81, 82, 83, 84, 85, 86, 87, 88, 89, 90, 91, 92, 93, 94, 95, 96] (fun a => [(5, .int .i64 a.1), (3, a.2)]) (fun a h => a.1 ≤ p.nodes.length ∧ Grow h a.2 (encS ((p.enums.map fun t => J (enumW t)) ++ (p.nodes.map fun n => J (nodeW n)).take a.1)) 9 ∧ h[0]? = some (.box p.cells)) (fun a => p.nodes.length - a.1) (fun _ => ())
    (fun ts _ ex s => ex = .exit 2 ∧ ∃ v, OutT [5, 6, 7, 8, 38, 39, 40, 41, 42, 43, 44, 45, 46, 47, 48, 49, 50, 51, 52, 53, 54, 55, 56, 57, 58, 59, 60, 61, 62, 63, 64, 65, 66, 67, 68, 69, 70, 71, 72, 73, 74, 75, 76, 77, 78, 79, 80, 81, 82, 83, 84, 85, 86, 87, 88, 89, 90, 91, 92, 93, 94, 95, 96] ts [(3, v)] (fun h => Grow h v (encS (outL p)) 9 ∧ h[0]? = some (.box p.cells)) s) (0, v') ⟨Nat.zero_le _, by simpa using hg1, q1⟩ (by simp only [AtT, ats, Int.natCast_zero]) (by
      rintro ⟨i, v⟩ j h d ⟨hi, hg, q0⟩
      clear hl; subst hb
      simp only at hi hg
      have hp0 : 0 < h.length := (List.getElem?_eq_some_iff.1 q0).1
      by_cases hlt : i < p.nodes.length
      · have e1 : ((i : Int) < (p.nodes.length : Int)) := by omega
        obtain ⟨x, hx⟩ : ∃ y, y = p.nodes[i] := ⟨_, rfl⟩
        have e3 : (p.nodes.map PNode.cells)[i]? = some (PNode.cells x) := by simp [hlt, hx]
        have hm : x ∈ p.nodes := by rw [hx]; exact List.getElem_mem hlt
        have hsx := hs.2.2.2 x hm
        have hrx := hr.2 x hm
        have hbx := hbe.2 x hm
        have hl3 := hsx.2.2.2.2.1
        have hcx : consT x.funs ≤ 1048576 ∧ consT x.ins ≤ 1048576 ∧ consT x.outs ≤ 1048576 ∧ x.name.length ≤ 1048576 := by unfold PNode.bulk at hbx; unfold consT; omega
        have hbi : ∀ y ∈ x.items, y.bulk ≤ 1048576 := fun y hy => by have := sumOf_mem PItem.bulk x.items y hy; unfold PNode.bulk at hbx; omega
        have cl := list_free x.funs 44 hcx.1
        have ci := rnamesS_c x.ins hcx.2.1
        have co := rnamesS_c x.outs hcx.2.2.1
        have hJn := congrArg List.length (nodeJ x)
        have hJt := J_len (nodeW x)
        have hJT := nodeW_T x
        simp only [List.length_append, List.length_cons, List.length_nil] at hJn
        have qx : (h ++ [Blk.box x.cells])[0]? = some (.box p.cells) := Boxes.app _ _ _ _ q0
        have q6 : (h ++ [Blk.box x.cells])[h.length]? = some (.box x.cells) := heap_at0 _ _
        have hp1 : decide (0 < (h ++ [Blk.box x.cells]).length) = true := decide_eq_true (by simp)
        have hp2 : decide (0 < h.length + 1) = true := decide_eq_true (by omega)
        have hlk : decide (h.length < h.length + 1) = true := decide_eq_true (by omega)
        have hfl : (fS x.funs).length = if x.funs.length = 0 then 0 else 3 + ((LS [44] x.funs).length + 2) := by unfold fS; split <;> simp; omega
        have htk : ((p.enums.map fun t => J (enumW t)) ++ (p.nodes.map fun n => J (nodeW n)).take (i + 1)) = ((p.enums.map fun t => J (enumW t)) ++ (p.nodes.map fun n => J (nodeW n)).take i) ++ [J (nodeW x)] := by
          rw [List.take_succ_eq_append_getElem (by simpa using hlt)]; simp [hx]
        simp only [sims, core, pe, Nat.reduceAdd, Int.reduceBEq, Int.reduceBNe, Int.reduceLT, Int.reduceLE, effs, fx_38, ty, e1, e3, q0]
        rw [bin_cat]
        case hl => ((try simp only [List.length_append, List.length_cons, List.length_nil]); omega)
        simp only [sims, core, pe, Nat.reduceAdd, Int.reduceBEq, Int.reduceBNe, Int.reduceLT, Int.reduceLE, effs, fx_38, ty, q6, qx]
        by_cases hz : x.funs.length = 0
        · have e0 : decide ((0 : Int) < (x.funs.length : Int)) = false := decide_eq_false (by omega)
          rw [if_pos hz] at hfl
          have hf : fS x.funs = [] := if_pos hz
          simp only [sims, core, pe, Nat.reduceAdd, Int.reduceBEq, Int.reduceBNe, Int.reduceLT, Int.reduceLE, effs, fx_38, ty, q6, qx, cl, ci _, co _, len_encStrs, hp1, hp2, hlk, e0]
          rw [bin_cat]
          case hl => ((try simp only [List.length_append, List.length_cons, List.length_nil]); omega)
          simp only [sims, core, pe, Nat.reduceAdd, Int.reduceBEq, Int.reduceBNe, Int.reduceLT, Int.reduceLE, effs, fx_38, ty, q6, qx, cl, ci _, co _, len_encStrs, hp1, hp2, hlk, e0]
          rw [bin_cat]
          case hl => ((try simp only [List.length_append, List.length_cons, List.length_nil]); omega)
          simp only [sims, core, pe, Nat.reduceAdd, Int.reduceBEq, Int.reduceBNe, Int.reduceLT, Int.reduceLE, effs, fx_38, ty, q6, qx, cl, ci _, co _, len_encStrs, hp1, hp2, hlk, e0]
          rw [bin_cat]
          case hl => ((try simp only [List.length_append, List.length_cons, List.length_nil]); omega)
          simp only [sims, core, pe, Nat.reduceAdd, Int.reduceBEq, Int.reduceBNe, Int.reduceLT, Int.reduceLE, effs, fx_38, ty, q6, qx, cl, ci _, co _, len_encStrs, hp1, hp2, hlk, e0]
          rw [bin_cat]
          case hl => ((try simp only [List.length_append, List.length_cons, List.length_nil]); omega)
          simp only [sims, core, pe, Nat.reduceAdd, Int.reduceBEq, Int.reduceBNe, Int.reduceLT, Int.reduceLE, effs, fx_38, ty, q6, qx, cl, ci _, co _, len_encStrs, hp1, hp2, hlk, e0]
          rw [bin_cat]
          case hl => ((try simp only [List.length_append, List.length_cons, List.length_nil]); omega)
          simp only [sims, core, pe, Nat.reduceAdd, Int.reduceBEq, Int.reduceBNe, Int.reduceLT, Int.reduceLE, effs, fx_38, ty, q6, qx, cl, ci _, co _, len_encStrs, hp1, hp2, hlk, e0]
          generalize hbi2 : codeB PP cmp0 C lpC _ = fi; generalize hli : lpC fi _ = ri
          obtain ⟨exi, si, rfl, rfl, h3⟩ := lpC_inv (α := Nat) hli [76, 77, 78, 79, 80, 81, 82, 83, 84, 85, 86, 87, 88, 89, 90, 91] (fun q => [(8, .int .i64 q), (7, .str ((110 :: 111 :: 100 :: 101 :: 32 :: (x.name ++ (fS x.funs ++ 32 :: (J (namesW x.ins) ++ 32 :: 61 :: 32 :: (J (namesW x.outs) ++ 32 :: [119, 104, 101, 114, 101]))))) ++ (x.items.take q).flatMap itS))]) (fun q g => q ≤ x.items.length ∧ Grow g v (encS ((p.enums.map fun t => J (enumW t)) ++ (p.nodes.map fun n => J (nodeW n)).take i)) 9 ∧ g[0]? = some (.box p.cells) ∧ g[h.length]? = some (.box x.cells)) (fun q => x.items.length - q) (fun _ => ())
            (fun ts _ ex s => ex = .exit 4 ∧ OutT [8, 76, 77, 78, 79, 80, 81, 82, 83, 84, 85, 86, 87, 88, 89, 90, 91] ts [(7, .str ((110 :: 111 :: 100 :: 101 :: 32 :: (x.name ++ (fS x.funs ++ 32 :: (J (namesW x.ins) ++ 32 :: 61 :: 32 :: (J (namesW x.outs) ++ 32 :: [119, 104, 101, 114, 101]))))) ++ x.items.flatMap itS))] (fun g => Grow g v (encS ((p.enums.map fun t => J (enumW t)) ++ (p.nodes.map fun n => J (nodeW n)).take i)) 9 ∧ g[0]? = some (.box p.cells) ∧ g[h.length]? = some (.box x.cells)) s) 0 ⟨Nat.zero_le _, hg.app _, qx, q6⟩ (by simp only [AtT, ats, Int.natCast_zero, hf, List.take_zero, List.flatMap_nil, List.append_nil, List.append_assoc, List.cons_append, List.nil_append]) (by
              rintro q j3 g d3 ⟨hq, hgq, g0, g6⟩
              clear hli; subst hbi2
              by_cases hlq : q < x.items.length
              · have e1 : ((q : Int) < (x.items.length : Int)) := by omega
                obtain ⟨y, hy⟩ : ∃ z, z = x.items[q] := ⟨_, rfl⟩
                have e3 : (x.items.map PItem.cells)[q]? = some (PItem.cells y) := by simp [hlq, hy]
                have hmy : y ∈ x.items := by rw [hy]; exact List.getElem_mem hlq
                have cy := ritemS_c y (hsx.2.2.2.2.2 y hmy) (hrx y hmy) (hbi y hmy)
                have hqq := flatS_len itS x.items (q + 1)
                have hsp := flatS itS x.items q hlq
                rw [← hy] at hsp
                rw [hsp, List.length_append] at hqq
                have hel : (itS y).length = (J (itemW y)).length + 1 := by simp [itS]
                simp only [sims, core, pe, Nat.reduceAdd, Int.reduceBEq, Int.reduceBNe, Int.reduceLT, Int.reduceLE, effs, fx_38, ty, e1, e3, g6, cy _]
                rw [bin_cat]
                case hl => ((try simp only [List.length_append, List.length_cons, List.length_nil]); omega)
                simp only [sims, core, pe, Nat.reduceAdd, Int.reduceBEq, Int.reduceBNe, Int.reduceLT, Int.reduceLE, effs, fx_38, ty]
                rw [bin_cat]
                case hl => ((try simp only [List.length_append, List.length_cons, List.length_nil]); omega)
                simp only [sims, core, pe, Nat.reduceAdd, Int.reduceBEq, Int.reduceBNe, Int.reduceLT, Int.reduceLE, effs, fx_38, ty, wrap_nat (show q ≤ lenTop by omega)]
                exact .inl ⟨q + 1, _, rfl, ⟨hlq, hgq, g0, g6⟩, by simp only [AtT, ats, Int.natCast_zero, hsp, itS, List.append_assoc, List.cons_append, List.nil_append], by (try simp only []); omega, by first | rfl | trivial⟩
              · have e1 : ¬ ((q : Int) < (x.items.length : Int)) := by omega
                simp only [sims, core, pe, Nat.reduceAdd, Int.reduceBEq, Int.reduceBNe, Int.reduceLT, Int.reduceLE, effs, fx_38, ty, e1, g6]
                have : x.items.take q = x.items := List.take_of_length_le (by omega)
                rw [this]
                exact .inr ⟨_, _, rfl, by simp, rfl, by simp only [AtT, ats, List.append_assoc, List.cons_append, List.nil_append], hgq, g0, g6⟩)
          obtain ⟨j3, H3, d3, ⟨hg3, r0, r6⟩, rfl⟩ := h3.elim
          clear hli
          obtain ⟨v1, E1, ha1, hg1', hB1⟩ := app_grow ao_33 (fs := [[.str (J (nodeW x))]]) hg3 (by rw [encS_len]; simp; omega) (encS_one _) (by intro c hc; simp only [List.mem_cons, List.not_mem_nil, or_false] at hc; subst hc; rfl) (by simp)
          rw [nodeJ x, hf] at ha1
          simp only [List.append_assoc, List.cons_append, List.nil_append] at ha1
          simp only [sims, core, pe, Nat.reduceAdd, Int.reduceBEq, Int.reduceBNe, Int.reduceLT, Int.reduceLE, effs, fx_38, ty]
          rw [bin_cat]
          case hl => ((try simp only [List.length_append, List.length_cons, List.length_nil]); omega)
          simp only [sims, core, pe, Nat.reduceAdd, Int.reduceBEq, Int.reduceBNe, Int.reduceLT, Int.reduceLE, effs, fx_38, ty, hf, ha1, wrap_nat (show i ≤ lenTop by omega)]
          exact .inl ⟨(i + 1, v1), _, rfl, ⟨hlt, by rw [htk, encS_app]; exact hg1', hB1 _ _ r0⟩, by simp only [AtT, ats, Int.natCast_zero], by (try simp only []); omega, by first | rfl | trivial⟩
        · have e0 : decide ((0 : Int) < (x.funs.length : Int)) = true := decide_eq_true (by omega)
          rw [if_neg hz] at hfl
          have hf : fS x.funs = 32 :: 91 :: 32 :: (LS [44] x.funs ++ [32, 93]) := if_neg hz
          simp only [sims, core, pe, Nat.reduceAdd, Int.reduceBEq, Int.reduceBNe, Int.reduceLT, Int.reduceLE, effs, fx_38, ty, q6, qx, cl, ci _, co _, len_encStrs, hp1, hp2, hlk, e0]
          rw [bin_cat]
          case hl => ((try simp only [List.length_append, List.length_cons, List.length_nil]); omega)
          simp only [sims, core, pe, Nat.reduceAdd, Int.reduceBEq, Int.reduceBNe, Int.reduceLT, Int.reduceLE, effs, fx_38, ty, q6, qx, cl, ci _, co _, len_encStrs, hp1, hp2, hlk, e0]
          rw [bin_cat]
          case hl => ((try simp only [List.length_append, List.length_cons, List.length_nil]); omega)
          simp only [sims, core, pe, Nat.reduceAdd, Int.reduceBEq, Int.reduceBNe, Int.reduceLT, Int.reduceLE, effs, fx_38, ty, q6, qx, cl, ci _, co _, len_encStrs, hp1, hp2, hlk, e0]
          rw [bin_cat]
          case hl => ((try simp only [List.length_append, List.length_cons, List.length_nil]); omega)
          simp only [sims, core, pe, Nat.reduceAdd, Int.reduceBEq, Int.reduceBNe, Int.reduceLT, Int.reduceLE, effs, fx_38, ty, q6, qx, cl, ci _, co _, len_encStrs, hp1, hp2, hlk, e0]
          rw [bin_cat]
          case hl => ((try simp only [List.length_append, List.length_cons, List.length_nil]); omega)
          simp only [sims, core, pe, Nat.reduceAdd, Int.reduceBEq, Int.reduceBNe, Int.reduceLT, Int.reduceLE, effs, fx_38, ty, q6, qx, cl, ci _, co _, len_encStrs, hp1, hp2, hlk, e0]
          rw [bin_cat]
          case hl => ((try simp only [List.length_append, List.length_cons, List.length_nil]); omega)
          simp only [sims, core, pe, Nat.reduceAdd, Int.reduceBEq, Int.reduceBNe, Int.reduceLT, Int.reduceLE, effs, fx_38, ty, q6, qx, cl, ci _, co _, len_encStrs, hp1, hp2, hlk, e0]
          rw [bin_cat]
          case hl => ((try simp only [List.length_append, List.length_cons, List.length_nil]); omega)
          simp only [sims, core, pe, Nat.reduceAdd, Int.reduceBEq, Int.reduceBNe, Int.reduceLT, Int.reduceLE, effs, fx_38, ty, q6, qx, cl, ci _, co _, len_encStrs, hp1, hp2, hlk, e0]
          rw [bin_cat]
          case hl => ((try simp only [List.length_append, List.length_cons, List.length_nil]); omega)
          simp only [sims, core, pe, Nat.reduceAdd, Int.reduceBEq, Int.reduceBNe, Int.reduceLT, Int.reduceLE, effs, fx_38, ty, q6, qx, cl, ci _, co _, len_encStrs, hp1, hp2, hlk, e0]
          rw [bin_cat]
          case hl => ((try simp only [List.length_append, List.length_cons, List.length_nil]); omega)
          simp only [sims, core, pe, Nat.reduceAdd, Int.reduceBEq, Int.reduceBNe, Int.reduceLT, Int.reduceLE, effs, fx_38, ty, q6, qx, cl, ci _, co _, len_encStrs, hp1, hp2, hlk, e0]
          generalize hbi2 : codeB PP cmp0 C lpC _ = fi; generalize hli : lpC fi _ = ri
          obtain ⟨exi, si, rfl, rfl, h3⟩ := lpC_inv (α := Nat) hli [76, 77, 78, 79, 80, 81, 82, 83, 84, 85, 86, 87, 88, 89, 90, 91] (fun q => [(8, .int .i64 q), (7, .str ((110 :: 111 :: 100 :: 101 :: 32 :: (x.name ++ (fS x.funs ++ 32 :: (J (namesW x.ins) ++ 32 :: 61 :: 32 :: (J (namesW x.outs) ++ 32 :: [119, 104, 101, 114, 101]))))) ++ (x.items.take q).flatMap itS))]) (fun q g => q ≤ x.items.length ∧ Grow g v (encS ((p.enums.map fun t => J (enumW t)) ++ (p.nodes.map fun n => J (nodeW n)).take i)) 9 ∧ g[0]? = some (.box p.cells) ∧ g[h.length]? = some (.box x.cells)) (fun q => x.items.length - q) (fun _ => ())
            (fun ts _ ex s => ex = .exit 4 ∧ OutT [8, 76, 77, 78, 79, 80, 81, 82, 83, 84, 85, 86, 87, 88, 89, 90, 91] ts [(7, .str ((110 :: 111 :: 100 :: 101 :: 32 :: (x.name ++ (fS x.funs ++ 32 :: (J (namesW x.ins) ++ 32 :: 61 :: 32 :: (J (namesW x.outs) ++ 32 :: [119, 104, 101, 114, 101]))))) ++ x.items.flatMap itS))] (fun g => Grow g v (encS ((p.enums.map fun t => J (enumW t)) ++ (p.nodes.map fun n => J (nodeW n)).take i)) 9 ∧ g[0]? = some (.box p.cells) ∧ g[h.length]? = some (.box x.cells)) s) 0 ⟨Nat.zero_le _, hg.app _, qx, q6⟩ (by simp only [AtT, ats, Int.natCast_zero, hf, List.take_zero, List.flatMap_nil, List.append_nil, List.append_assoc, List.cons_append, List.nil_append]) (by
              rintro q j3 g d3 ⟨hq, hgq, g0, g6⟩
              clear hli; subst hbi2
              by_cases hlq : q < x.items.length
              · have e1 : ((q : Int) < (x.items.length : Int)) := by omega
                obtain ⟨y, hy⟩ : ∃ z, z = x.items[q] := ⟨_, rfl⟩
                have e3 : (x.items.map PItem.cells)[q]? = some (PItem.cells y) := by simp [hlq, hy]
                have hmy : y ∈ x.items := by rw [hy]; exact List.getElem_mem hlq
                have cy := ritemS_c y (hsx.2.2.2.2.2 y hmy) (hrx y hmy) (hbi y hmy)
                have hqq := flatS_len itS x.items (q + 1)
                have hsp := flatS itS x.items q hlq
                rw [← hy] at hsp
                rw [hsp, List.length_append] at hqq
                have hel : (itS y).length = (J (itemW y)).length + 1 := by simp [itS]
                simp only [sims, core, pe, Nat.reduceAdd, Int.reduceBEq, Int.reduceBNe, Int.reduceLT, Int.reduceLE, effs, fx_38, ty, e1, e3, g6, cy _]
                rw [bin_cat]
                case hl => ((try simp only [List.length_append, List.length_cons, List.length_nil]); omega)
                simp only [sims, core, pe, Nat.reduceAdd, Int.reduceBEq, Int.reduceBNe, Int.reduceLT, Int.reduceLE, effs, fx_38, ty]
                rw [bin_cat]
                case hl => ((try simp only [List.length_append, List.length_cons, List.length_nil]); omega)
                simp only [sims, core, pe, Nat.reduceAdd, Int.reduceBEq, Int.reduceBNe, Int.reduceLT, Int.reduceLE, effs, fx_38, ty, wrap_nat (show q ≤ lenTop by omega)]
                exact .inl ⟨q + 1, _, rfl, ⟨hlq, hgq, g0, g6⟩, by simp only [AtT, ats, Int.natCast_zero, hsp, itS, List.append_assoc, List.cons_append, List.nil_append], by (try simp only []); omega, by first | rfl | trivial⟩
              · have e1 : ¬ ((q : Int) < (x.items.length : Int)) := by omega
                simp only [sims, core, pe, Nat.reduceAdd, Int.reduceBEq, Int.reduceBNe, Int.reduceLT, Int.reduceLE, effs, fx_38, ty, e1, g6]
                have : x.items.take q = x.items := List.take_of_length_le (by omega)
                rw [this]
                exact .inr ⟨_, _, rfl, by simp, rfl, by simp only [AtT, ats, List.append_assoc, List.cons_append, List.nil_append], hgq, g0, g6⟩)
          obtain ⟨j3, H3, d3, ⟨hg3, r0, r6⟩, rfl⟩ := h3.elim
          clear hli
          obtain ⟨v1, E1, ha1, hg1', hB1⟩ := app_grow ao_33 (fs := [[.str (J (nodeW x))]]) hg3 (by rw [encS_len]; simp; omega) (encS_one _) (by intro c hc; simp only [List.mem_cons, List.not_mem_nil, or_false] at hc; subst hc; rfl) (by simp)
          rw [nodeJ x, hf] at ha1
          simp only [List.append_assoc, List.cons_append, List.nil_append] at ha1
          simp only [sims, core, pe, Nat.reduceAdd, Int.reduceBEq, Int.reduceBNe, Int.reduceLT, Int.reduceLE, effs, fx_38, ty]
          rw [bin_cat]
          case hl => ((try simp only [List.length_append, List.length_cons, List.length_nil]); omega)
          simp only [sims, core, pe, Nat.reduceAdd, Int.reduceBEq, Int.reduceBNe, Int.reduceLT, Int.reduceLE, effs, fx_38, ty, hf, ha1, wrap_nat (show i ≤ lenTop by omega)]
          exact .inl ⟨(i + 1, v1), _, rfl, ⟨hlt, by rw [htk, encS_app]; exact hg1', hB1 _ _ r0⟩, by simp only [AtT, ats, Int.natCast_zero], by (try simp only []); omega, by first | rfl | trivial⟩
      · have e1 : ¬ ((i : Int) < (p.nodes.length : Int)) := by omega
        simp only [sims, core, pe, Nat.reduceAdd, Int.reduceBEq, Int.reduceBNe, Int.reduceLT, Int.reduceLE, effs, fx_38, ty, e1, q0]
        have : (p.nodes.map fun n => J (nodeW n)).take i = p.nodes.map fun n => J (nodeW n) := List.take_of_length_le (by simp only [List.length_map]; omega)
        rw [this] at hg
        exact .inr ⟨_, _, rfl, by simp, rfl, v, by simp only [AtT, ats], hg, q0⟩)
  obtain ⟨j2, H2, d2, ⟨hg2, q2⟩, rfl⟩ := h2.elim
  clear hl
  simp only [sims, core, pe, Nat.reduceAdd, Int.reduceBEq, Int.reduceBNe, Int.reduceLT, Int.reduceLE, effs, fx_38, ty, q2]
  obtain ⟨tk, rfl⟩ : ∃ tk, v2 = .slice (encS (outL p)) tk := by
    rcases hg2 with ⟨h1, h2⟩ | ⟨t, h1, _⟩
    · exact ⟨_, by rw [h2]; exact congrArg (fun l => AVal.slice l .full) h1.symm⟩
    · exact ⟨_, h1⟩
  have hol : (encS (outL p)).length = (outL p).length := encS_len _
  have hob : (outL p).length ≤ 1048576 := by simp only [outL, List.length_append, List.length_map]; omega
  have hJo := J_len (progW p)
  have hJT := progW_T p
  rw [← outL_J] at hJo
  have htl : ∀ i, i ≤ (outL p).length → (J ((outL p).take i)).length ≤ (J (outL p)).length := fun i _ => J_take_len (outL p) i
  generalize hb : codeB PP cmp0 C lpC _ = f; generalize hl : lpC f _ = r
  obtain ⟨ex, s', rfl, rfl, h3⟩ := lpC_inv (α := Nat) hl [97, 98, 99, 100, 101, 102, 103, 104, 105, 106, 107, 108, 109, 110, 111, 112] (fun i => [(10, .int .i64 i), (9, .str (J ((outL p).take i)))]) (fun i _ => i ≤ (outL p).length) (fun i => (outL p).length - i) (fun _ => ())
    (fun ts _ ex s => ex = .exit 6 ∧ OutT [10, 97, 98, 99, 100, 101, 102, 103, 104, 105, 106, 107, 108, 109, 110, 111, 112] ts [(9, .str (J (outL p)))] (fun _ => True) s) 0 (Nat.zero_le _) (by simp only [AtT, ats, Int.natCast_zero, List.take_zero, J_nil]) (by
      rintro i j h d hi
      clear hl; subst hb
      by_cases hlt : i < (outL p).length
      · have e1 : ((i : Int) < ((outL p).length : Int)) := by omega
        have e3 := encS_get (outL p) i (outL p)[i] (by simp [hlt])
        have hst := J_take (outL p) i hlt
        have hlq := htl (i + 1) hlt
        rw [hst] at hlq
        rcases i with _ | i
        · have e4 : decide ((0 : Int) < ((0 : Nat) : Int)) = false := rfl
          have e5 : decide ((0 : Int) < 0) = false := rfl
          rw [if_pos rfl] at hst hlq
          simp only [sims, core, pe, Nat.reduceAdd, Int.reduceBEq, Int.reduceBNe, Int.reduceLT, Int.reduceLE, effs, fx_38, ty, hol, e1, e3, e4, e5, List.take_zero, J_nil]
          rw [bin_cat]
          case hl => ((try simp only [List.length_append, List.length_cons, List.length_nil]); omega)
          simp only [sims, core, pe, Nat.reduceAdd, Int.reduceBEq, Int.reduceBNe, Int.reduceLT, Int.reduceLE, effs, fx_38, ty, wrap_nat (show 0 ≤ lenTop by omega)]
          exact .inl ⟨0 + 1, _, rfl, hlt, by rw [hst]; simp only [AtT, ats, Int.natCast_zero, List.nil_append], by (try simp only []); omega, by first | rfl | trivial⟩
        · have e4 : decide ((0 : Int) < ((i + 1 : Nat) : Int)) = true := decide_eq_true (by omega)
          rw [if_neg (by omega)] at hst hlq
          simp only [List.length_append, List.length_cons] at hlq
          simp only [sims, core, pe, Nat.reduceAdd, Int.reduceBEq, Int.reduceBNe, Int.reduceLT, Int.reduceLE, effs, fx_38, ty, hol, e1, e3, e4]
          rw [bin_cat]
          case hl => ((try simp only [List.length_append, List.length_cons, List.length_nil]); omega)
          simp only [sims, core, pe, Nat.reduceAdd, Int.reduceBEq, Int.reduceBNe, Int.reduceLT, Int.reduceLE, effs, fx_38, ty, e3]
          rw [bin_cat]
          case hl => ((try simp only [List.length_append, List.length_cons, List.length_nil]); omega)
          simp only [sims, core, pe, Nat.reduceAdd, Int.reduceBEq, Int.reduceBNe, Int.reduceLT, Int.reduceLE, effs, fx_38, ty, e3, wrap_nat (show i + 1 ≤ lenTop by omega)]
          exact .inl ⟨i + 1 + 1, _, rfl, hlt, by rw [hst]; simp only [AtT, ats, Int.natCast_zero, List.append_assoc, List.cons_append, List.nil_append], by (try simp only []); omega, by first | rfl | trivial⟩
      · have e1 : ¬ ((i : Int) < ((outL p).length : Int)) := by omega
        simp only [sims, core, pe, Nat.reduceAdd, Int.reduceBEq, Int.reduceBNe, Int.reduceLT, Int.reduceLE, effs, fx_38, ty, hol, e1]
        have : (outL p).take i = outL p := List.take_of_length_le (by omega)
        rw [this]
        exact .inr ⟨_, _, rfl, by simp, rfl, by simp only [AtT, ats], trivial⟩)
  obtain ⟨j3, H3, d3, -, rfl⟩ := h3.elim
  clear hl
  simp only [sims, core, pe, Nat.reduceAdd, Int.reduceBEq, Int.reduceBNe, Int.reduceLT, Int.reduceLE, effs, fx_38, ty]
end Go.Ab
