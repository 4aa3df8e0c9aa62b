/- How long a program's text may be. -/
import Derived.Test.YtnmejllfnndcbaaGreatDoorAbTxt
import Derived.Test.YtnmejllfnndcbaaGreatDoorAbScS
import Derived.Test.YtnmejllfnndcbaaGreatDoorAbTk2
set_option linter.unusedSimpArgs false
set_option linter.unusedVariables false
namespace Go.Ab
open Go Go.Ab.Tab
set_option maxRecDepth 100000
set_option maxHeartbeats 4000000
set_option linter.unusedSimpArgs false
theorem flat_T {X : Type} (f : X → List Str) (b : X → Nat) (h : ∀ x, T (f x) ≤ 60 * b x) (l : List X) : T (l.flatMap f) ≤ 60 * sumOf b l := by
  induction l with
  | nil => simp [T, sumOf]
  | cons x r ih =>
    have := h x
    simp only [List.flatMap_cons, T_app, sumOf]
    omega
theorem listW_T3 (l : List Str) (c : UInt8) : T (listW l [c]) ≤ 3 * consT l := by
  have h := listW_T l [c]
  have h2 := consT_len l
  simp only [List.length_cons, List.length_nil] at h
  omega
theorem namesW_T (l : List Str) : T (namesW l) ≤ 3 * consT l + 4 := by
  have := listW_T3 l 44
  simp only [namesW, T_app, T, List.length_cons, List.length_nil]
  omega
theorem headW_T (l : List Str) : T (headW l) ≤ 3 * consT l + 4 := by
  unfold headW
  split
  · simp only [T, consT, sumOf]; omega
  · exact namesW_T l
theorem eqW_T (q : PEq) : T (eqW q) ≤ 60 * q.bulk := by
  have h1 := headW_T q.names
  have h2 := words_T q.e
  unfold eqW PEq.bulk
  unfold consT at h1
  simp only [T_app, T, List.length_cons, List.length_nil]
  omega
theorem wayW_T (w : PWay) : T (wayW w) ≤ 60 * w.bulk := by
  have h2 := words_T w.cond
  unfold wayW PWay.bulk
  simp only [T_app, T, List.length_cons, List.length_nil]
  omega
theorem stateW_T (s : PState) : T (stateW s) ≤ 60 * s.bulk := by
  have h1 := flat_T eqW PEq.bulk eqW_T s.eqs
  have h2 := flat_T wayW PWay.bulk wayW_T s.ways
  unfold stateW PState.bulk
  simp only [T_app, T, List.length_cons, List.length_nil]
  omega
theorem itemW_T (x : PItem) : T (itemW x) ≤ 60 * x.bulk := by
  have h1 := flat_T stateW PState.bulk stateW_T x.states
  have h2 := eqW_T x.eq
  unfold itemW PItem.bulk
  split
  · omega
  · simp only [T_app, T, List.length_cons, List.length_nil]
    omega
theorem enumW_T (t : PEnum) : T (enumW t) ≤ 60 * t.bulk := by
  have h1 := listW_T3 t.cons 124
  unfold enumW PEnum.bulk
  unfold consT at h1
  simp only [T_app, T, List.length_cons, List.length_nil]
  omega
theorem brW_T (l : List Str) : T (brW l) ≤ 3 * consT l + 4 := by
  have := listW_T3 l 44
  unfold brW
  split
  · simp [T]
  · simp only [T_app, T, List.length_cons, List.length_nil]; omega
theorem nodeW_T (n : PNode) : T (nodeW n) ≤ 60 * n.bulk := by
  have h1 := flat_T itemW PItem.bulk itemW_T n.items
  have h2 := brW_T n.funs
  have h3 := namesW_T n.ins
  have h4 := namesW_T n.outs
  unfold nodeW PNode.bulk
  unfold consT at h2 h3 h4
  simp only [T_app, T, List.length_cons, List.length_nil]
  omega
theorem progW_T (p : PProg) : T (progW p) ≤ 60 * p.bulk := by
  have h1 := flat_T enumW PEnum.bulk enumW_T p.enums
  have h2 := flat_T nodeW PNode.bulk nodeW_T p.nodes
  unfold progW PProg.bulk
  simp only [T_app]
  omega
end Go.Ab
/- The text of a program that may be scans, and its tokens spell it. -/
namespace Go.Ab
open Go Go.Ab.Tab
set_option maxRecDepth 100000
set_option maxHeartbeats 4000000
set_option linter.unusedSimpArgs false
theorem spell_c (l : List PTok) (hl : l.length ≤ 65536) (hT : T (l.map PTok.text) ≤ lenTop) : Ret C 27 [.slice (l.map PTok.cells) .free] (.str (J (l.map PTok.text))) := by
  refine Ret.mk rfl rfl ?_
  rw [C_fn rfl Go.Proofs.Tryz.func27 rfl (by kernel_rfl) (m := 19) rfl]; simp only [sims, core, pe, Nat.reduceAdd, Nat.reduceBEq, Int.reduceBEq, Int.reduceBNe, Int.reduceLT, Int.reduceLE, Go.Proofs.Tryz.f27, fx_27, ty]
  generalize hb : codeB PP cmp0 C lpC _ = f; generalize hl : lpC f _ = r
  obtain ⟨ex, s', rfl, rfl, v', h2⟩ := lpC_inv (α := Nat × AVal) hl [5, 9, 10, 11, 12, 13, 14, 15, 16, 17] (fun a => [(3, a.2), (8, .int .i64 a.1)]) (fun a h => a.1 ≤ l.length ∧ Grow h a.2 (encS ((l.map PTok.text).take a.1)) 9) (fun a => l.length - a.1) (fun a => ())
    (fun ts _ ex s => ex = .exit 0 ∧ ∃ v, OutT [5, 8, 9, 10, 11, 12, 13, 14, 15, 16, 17] ts [(3, v)] (fun h => Grow h v (encS (l.map PTok.text)) 9) s) (0, .slice [] .full) ⟨Nat.zero_le _, .inl ⟨rfl, rfl⟩⟩ (by simp only [AtT, ats, Int.natCast_zero]) (by
      rintro ⟨i, v⟩ j h d ⟨hi, hg⟩
      clear hl; subst hb
      simp only at hi hg
      by_cases hlt : i < l.length
      · have e1 : ((i : Int) < (l.length : Int)) := by omega
        obtain ⟨x, hx⟩ : ∃ y, y = l[i] := ⟨_, rfl⟩
        have e3 : (l.map PTok.cells)[i]? = some [.int .i64 x.sort, .str x.text, .int .i64 x.n, .int .i64 x.line, .int .i64 x.col] := by
          have : (l.map PTok.cells)[i]? = some x.cells := by simp [hlt, hx]
          exact this
        obtain ⟨v1, E1, ha1, hg1, hB1⟩ := app_grow ao_33 (fs := [[.str x.text]]) (hg.app [Blk.box [AVal.int .i64 x.sort, .str x.text, .int .i64 x.n, .int .i64 x.line, .int .i64 x.col]]) (by rw [encS_len]; simp; unfold lenTop; omega) (encS_one _) (by intro c hc; simp only [List.mem_cons, List.not_mem_nil, or_false] at hc; subst hc; rfl) (by simp)
        have htk : (l.map PTok.text).take (i + 1) = (l.map PTok.text).take i ++ [x.text] := by
          rw [List.take_succ_eq_append_getElem (by simpa using hlt)]; simp [hx]
        simp only [sims, core, pe, Nat.reduceAdd, Nat.reduceBEq, Int.reduceBEq, Int.reduceBNe, Int.reduceLT, Int.reduceLE, effs, fx_27, ty, e1, e3, ha1, wrap_nat (show i ≤ lenTop by unfold lenTop; omega)]
        exact .inl ⟨(i + 1, v1), _, rfl, ⟨hlt, by rw [htk, encS_app]; exact hg1⟩, by simp only [AtT, ats, Int.natCast_zero], by (try simp only []); omega, by first | rfl | trivial⟩
      · have e1 : ¬ ((i : Int) < (l.length : Int)) := by omega
        simp only [sims, core, pe, Nat.reduceAdd, Nat.reduceBEq, Int.reduceBEq, Int.reduceBNe, Int.reduceLT, Int.reduceLE, effs, fx_27, ty, e1]
        have : (l.map PTok.text).take i = l.map PTok.text := List.take_of_length_le (by simp only [List.length_map]; omega)
        rw [this] at hg
        exact .inr ⟨_, _, rfl, by simp, rfl, v, by simp only [AtT, ats], hg⟩)
  obtain ⟨j1, H1, d1, hg1, rfl⟩ := h2.elim
  clear hl
  obtain ⟨tk, hv, htk⟩ : ∃ tk, v' = .slice (encS (l.map PTok.text)) tk ∧ ∀ t, tk = .own t → ∃ k e, H1[t]? = some (.tok k e) := by
    rcases hg1 with ⟨h1, h2⟩ | ⟨t, h1, h2⟩
    · exact ⟨.full, by rw [h2, h1], fun t h => by cases h⟩
    · exact ⟨.own t, h1, fun t' h => by cases h; exact ⟨_, _, h2⟩⟩
  subst hv
  have cj := callA_tk2 (H := H1) (s := .str [32]) rfl (fun _ => rfl) (fun tk B _ => join_own (l.map PTok.text) hT tk B) rfl htk
  simp only [sims, core, pe, Nat.reduceAdd, Nat.reduceBEq, Int.reduceBEq, Int.reduceBNe, Int.reduceLT, Int.reduceLE, effs, fx_27, ty, cj]
theorem fault_eq (n : Bool) : binA PP cmp0 .eql 43 n (.agg [.int .i64 0, .int .i64 0, .int .i64 0]) (.agg [.int .i64 0, .int .i64 0, .int .i64 0]) = some (.bool true) := by
  cases n <;> kernel_rfl
theorem J_ge : ∀ ws : List Str, (∀ w ∈ ws, w ≠ []) → ws.length ≤ (J ws).length
  | [], _ => Nat.le_refl _
  | [w], h => by
    have hw := h w (by simp)
    rw [J_one]
    cases w with
    | nil => exact absurd rfl hw
    | cons c t => simp
  | w :: v :: r, h => by
    have := J_ge (v :: r) (fun x hx => h x (by simp [hx]))
    rw [J_cons w _ (by simp)]
    simp only [List.length_append, List.length_cons] at this ⊢
    omega
theorem sub_one (n : Nat) (h : n ≤ lenTop) : wrapF .i64 (((n + 1 : Nat) : Int) - 1) = (n : Int) := by
  rw [wrap_small (by omega) (by unfold lenTop at h; omega)]; omega
theorem slice_tok (es : List (List AVal)) (x : List AVal) (h5 : ∀ c ∈ es, c.length = 5) (hx : x.length = 5) : sliceA PP 41 (.slice (es ++ [x]) .free) none (some (.int .i64 (es.length : Int))) none = some (.slice es .free) := by
  have h1 : PP.underlying 41 = some (.slice 85) := by kernel_rfl
  have h2 : sizeA PP 85 = some 5 := by kernel_rfl
  have h3 : headOk 5 (es ++ [x]) = true := headOk_elems (fun c hc => by
    rcases List.mem_append.1 hc with hc | hc
    · exact h5 c hc
    · obtain rfl := List.mem_singleton.1 hc; exact hx)
  unfold sliceA
  simp only [h1, h2]
  have hb : bound (.int .i64 (es.length : Int)) ((none : Option Nat).getD (es ++ [x]).length) = some es.length := by
    simp [bound]; try omega
  rw [hb]
  simp only [h3, if_true, Nat.sub_zero, List.drop_zero, List.take_left]
  congr 1
  unfold sliceTk
  simp
theorem treeScans_c (hlive : Ret C 10 [] (.bool true)) (p : PProg) (hs : p.Small) (hr : p.Rng) (hb : p.bulk ≤ 1048576) : C 9 [.agg p.cells] [] = some (.ret (.bool true) .same) := by
  have hTp := progW_T p
  have m2 : lenTop = 1099511627776 := rfl
  have a := print_c p hs hr (by omega)
  have r := right_c false p hs hr
  unfold printV at a
  by_cases hz : rightI false p = 0
  · rw [if_pos hz] at a
    have gp := goodP_of hz hr (by unfold lenTop; omega)
    have hok := oks_prog gp
    have hne := node_ne p hz
    obtain ⟨ws, hws⟩ : ∃ ws, ws = progW p := ⟨_, rfl⟩
    rw [← hws] at hok hne a hTp
    have hJl := J_len ws
    have hJle : (J ws).length ≤ lenTop := by omega
    by_cases hbig : 65536 < (J ws).length
    · have hd : decide ((65536 : Int) < ((J ws).length : Int)) = true := decide_eq_true (by omega)
      rw [C_fn rfl Go.Proofs.Tryz.func9 rfl (by kernel_rfl) (m := 49) rfl]; simp only [sims, core, pe, Nat.reduceAdd, Nat.reduceBEq, Int.reduceBEq, Int.reduceBNe, Int.reduceLT, Int.reduceLE, Go.Proofs.Tryz.f9, fx_9, ty, hlive _, a _, hJle, hd]
    · have hd : decide ((65536 : Int) < ((J ws).length : Int)) = false := decide_eq_false (by omega)
      have hge := J_ge ws (fun w hw => (wok_noB (hok w hw)).1)
      obtain ⟨l, e, h1, h2, h3⟩ := scan_words ws [] ((J ws).length + 1) hne hok (by omega)
      have c1 := scan_c (J ws) (by omega)
      have hv : scanV (J ws) = .tuple [.slice (l.map PTok.cells ++ [e.cells]) .free, .agg [.int .i64 0, .int .i64 0, .int .i64 0]] := by
        unfold scanV
        rw [if_neg hbig]
        have h1' : scanF (J ws) ((J ws).length + 1) 0 = (some (l ++ [e]), 0) := h1
        rw [h1']
        simp only [List.map_append]; rfl
      rw [hv] at c1
      have htx : l.map PTok.text = ws := by
        have := congrArg (List.map PTok.text) h2
        rw [List.map_map] at this
        have e1 : (PTok.text ∘ strip) = PTok.text := rfl
        rw [e1] at this
        rw [this]
        unfold toks
        rw [List.map_map]
        have e2 : (PTok.text ∘ tokW) = id := rfl
        rw [e2, List.map_id]
      have hll : l.length = ws.length := by rw [← htx, List.length_map]
      have c2 := spell_c l (by omega) (by rw [htx]; omega)
      rw [htx] at c2
      have sl := slice_tok (l.map PTok.cells) e.cells (tok5 l) rfl
      have hlm : (l.map PTok.cells).length = l.length := List.length_map _
      rw [hlm] at sl
      have sb := sub_one l.length (by omega)
      have hpos : decide ((0 : Int) < ((l.length + 1 : Nat) : Int)) = true := decide_eq_true (by omega)
      rw [C_fn rfl Go.Proofs.Tryz.func9 rfl (by kernel_rfl) (m := 49) rfl]; simp only [sims, core, pe, Nat.reduceAdd, Nat.reduceBEq, Int.reduceBEq, Int.reduceBNe, Int.reduceLT, Int.reduceLE, Go.Proofs.Tryz.f9, fx_9, ty, hlive _, a _, hJle, hd, c1 _, fault_eq, hpos, sb, sl, c2 _]
  · rw [if_neg hz] at a
    have hz' : (rightI false p == 0) = false := by simpa using hz
    rw [C_fn rfl Go.Proofs.Tryz.func9 rfl (by kernel_rfl) (m := 49) rfl]; simp only [sims, core, pe, Nat.reduceAdd, Nat.reduceBEq, Int.reduceBEq, Int.reduceBNe, Int.reduceLT, Int.reduceLE, Go.Proofs.Tryz.f9, fx_9, ty, hlive _, a _, r _, bne, hz']
end Go.Ab
