/- Calls whose argument names a box that names another one. -/
import Derived.Test.YtnmejllfnndcbaaGreatDoorAbBox
import Derived.Test.YtnmejllfnndcbaaGreatDoorAbScanr
set_option linter.unusedSimpArgs false
set_option linter.unusedVariables false
namespace Go.Ab
theorem callA_box2 {call : Call} {H : AHeap} {g : FuncId} {b b' : Nat} {cs ws : List AVal} {v : AVal} (args : List AVal) (ha : refsL args = [b]) (hb : H[b]? = some (.box cs)) (hcs : refsL cs = [b']) (hne : (b' == b) = false) (hb' : H[b']? = some (.box ws)) (hws : refsL ws = [])
    (e : call g (renL (fun _ => 0) args) [.box (renL (fun _ => 1) cs), .box ws] = some (.ret v .same)) (hv : refs v = []) : callA call H g args = some (.ret v .same) := by
  have hbb : (b == b') = false := by
    rw [beq_eq_false_iff_ne] at hne ⊢
    exact fun h => hne h.symm
  refine callA_idx [b, b'] ?_ ?_ ?_ hv
  · rw [ha]
    simp [reach, hb, hcs, hb', hws, beq_eq_false_iff_ne.1 hne]
  · unfold subOk
    simp [ha, hb, hb', blkRefs, hcs, hws]
  · have h1 : renL (fun x => List.idxOf x [b, b']) args = renL (fun _ => 0) args := by
      refine renL_congr args (fun x hx => ?_)
      rw [ha] at hx
      simp only [List.mem_cons, List.not_mem_nil, or_false] at hx
      subst hx; simp
    rw [h1]
    have h2 : subH H [b, b'] = [.box (renL (fun _ => 1) cs), .box ws] := by
      simp only [subH, List.map_cons, List.map_nil, List.getD_eq_getElem?_getD, hb, hb', Option.getD_some, renB]
      rw [renL_same ws (by rw [hws]; simp)]
      have : renL (fun x => List.idxOf x [b, b']) cs = renL (fun _ => 1) cs := by
        refine renL_congr cs (fun x hx => ?_)
        rw [hcs] at hx
        simp only [List.mem_cons, List.not_mem_nil, or_false] at hx
        subst hx
        simp [List.idxOf_cons, hbb]
      rw [this]
    rw [h2]; exact e
end Go.Ab
/- Which expressions may be. -/
namespace Go.Ab
open Go Go.Ab.Tab
set_option maxRecDepth 100000
set_option maxHeartbeats 4000000
set_option linter.unusedSimpArgs false
theorem contains_Str_d (l : List Str) (hl : l.length ≤ lenTop) (g h : FuncId) (ws : List AVal) (hws : refsL ws = []) (p : Str → Bool) (hp : ∀ x ∈ l, ∀ H, callA C (.box [.func h [] [.ptr 1 0]] :: .box ws :: H) g [.str x, .ptr 0 0] = some (.ret (.bool (p x)) .same)) :
    C 94 [.slice (l.map (fun s => [AVal.str s])) .free, .func g [] [.ptr 0 0]] [.box [.func h [] [.ptr 1 0]], .box ws] = some (.ret (.bool (l.any p)) .same) := by
  have e1 : ∀ H, callA C (.box [.func h [] [.ptr 1 0]] :: .box ws :: H) 124 [.slice (l.map (fun s => [AVal.str s])) .free, .func g [] [.ptr 0 0]] = some (.ret (.int .i64 (idxP p l 0)) .same) := fun H =>
    callA_box2 (b := 0) (b' := 1) _ rfl rfl rfl rfl rfl hws (index_Str_c l hl g [] [.ptr 0 0] [.box [.func h [] [.ptr 1 0]], .box ws] p hp) rfl
  rw [C_fn rfl Go.Proofs.Tryz.func94 rfl (by kernel_rfl) (m := 7) rfl]; simp only [sims, core, pe, Nat.reduceAdd, Int.reduceBEq, Int.reduceBNe, Int.reduceLT, Int.reduceLE, Go.Proofs.Tryz.f94, fx_94, e1, idxP_has, leave_clean 2 _ _ [] (by simp)]
theorem all1_h (h : FuncId) (ws : List AVal) (hws : refsL ws = []) (s : Str) (b : Bool) (hp : C h [.str s, .ptr 0 0] [.box ws] = some (.ret (.bool b) .same)) :
    C 95 [.str s, .ptr 0 0] [.box [.func h [] [.ptr 1 0]], .box ws] = some (.ret (.bool (!b)) .same) := by
  have e1 : ∀ H, callA C (.box [.func h [] [.ptr 1 0]] :: .box ws :: H) h [.str s, .ptr 1 0] = some (.ret (.bool b) .same) := fun H => callA_box1 (b := 1) _ rfl rfl hws hp rfl
  rw [C_fn rfl Go.Proofs.Tryz.func95 rfl (by kernel_rfl) (m := 6) rfl]; simp only [sims, core, pe, Nat.reduceAdd, Int.reduceBEq, Int.reduceBNe, Int.reduceLT, Int.reduceLE, Go.Proofs.Tryz.f95, fx_95, e1, leave_clean 2 _ _ [] (by simp)]
theorem all_h (l : List Str) (hl : l.length ≤ lenTop) (least most : Int) (h : FuncId) (ws : List AVal) (hws : refsL ws = []) (p : Str → Bool) (hp : ∀ x ∈ l, C h [.str x, .ptr 0 0] [.box ws] = some (.ret (.bool (p x)) .same)) :
    C 56 [encStrs l, .int .i64 least, .int .i64 most, .func h [] [.ptr 0 0]] [.box ws] = some (.ret (.bool (decide (least ≤ l.length) && decide ((l.length : Int) ≤ most) && !l.any fun s => !p s)) .same) := by
  have e1 := contains_Str_d l hl 95 h ws hws (fun s => !p s) (fun x hx H =>
    callA_box2 (b := 0) (b' := 1) _ rfl rfl rfl rfl rfl hws (all1_h h ws hws x (p x) (hp x hx)) rfl)
  have e2 : ∀ H, callA C (.box ws :: .box [.func h [] [.ptr 0 0]] :: H) 94 [.slice (l.map fun s => [.str s]) .free, .func 95 [] [.ptr 1 0]] = some (.ret (.bool (l.any fun s => !p s)) .same) := fun H =>
    callA_box2 (b := 1) (b' := 0) _ rfl rfl rfl rfl rfl hws e1 rfl
  rw [C_fn rfl Go.Proofs.Tryz.func56 rfl (by kernel_rfl) (m := 21) rfl]; simp only [sims, core, pe, Nat.reduceAdd, Int.reduceBEq, Int.reduceBNe, Int.reduceLT, Int.reduceLE, Go.Proofs.Tryz.f56, fx_56, encStrs]
  cases h1 : decide (least ≤ (l.length : Int))
  · simp only [sims, core, pe, Nat.reduceAdd, Int.reduceBEq, Int.reduceBNe, Int.reduceLT, Int.reduceLE, fx_56, h1, leave_clean 1 _ _ [] (by simp)]
  cases h2 : decide ((l.length : Int) ≤ most)
  · simp only [sims, core, pe, Nat.reduceAdd, Int.reduceBEq, Int.reduceBNe, Int.reduceLT, Int.reduceLE, fx_56, h1, h2, leave_clean 1 _ _ [] (by simp)]
  · simp only [sims, core, pe, Nat.reduceAdd, Int.reduceBEq, Int.reduceBNe, Int.reduceLT, Int.reduceLE, fx_56, h1, h2, e2, leave_clean 1 _ _ [] (by simp)]
/-- Of none. -/
theorem all_none (l : List Str) (w : List AVal) (ol : List Str) (hw : w = (oneW 1 1).cells ∧ ol = unL ∨ w = (oneW 1 2).cells ∧ ol = binL) :
    C 56 [encStrs l, .int .i64 0, .int .i64 0, .func 164 [] [.ptr 0 0]] [.box w, .box [.slice (ol.map fun s => [.str s]) .full]] = some (.ret (.bool (decide ((l.length : Int) ≤ 0))) .same) := by
  cases l with
  | nil => rcases hw with ⟨rfl, rfl⟩ | ⟨rfl, rfl⟩ <;> exact C_of (n := 6) (by kernel_rfl)
  | cons x r =>
    have e1 : decide (((r.length + 1 : Nat) : Int) ≤ 0) = false := decide_eq_false (by omega)
    have e2 : decide ((0 : Int) ≤ ((r.length + 1 : Nat) : Int)) = true := decide_eq_true (by omega)
    rw [C_fn rfl Go.Proofs.Tryz.func56 rfl (by kernel_rfl) (m := 21) rfl]; simp only [sims, core, pe, Nat.reduceAdd, Int.reduceBEq, Int.reduceBNe, Int.reduceLT, Int.reduceLE, Go.Proofs.Tryz.f56, fx_56, encStrs, e1, e2, leave_clean 2 _ _ [] (by simp)]
theorem expr1_c (name n : AVal) (least most kids many : Int) (am : Bool) (g : FuncId) (fst : List AVal) (s : Str) (b : Bool) (hr : Ret C g (fst ++ [.str s]) (.bool b)) (hn : name.cells = [name] ∧ n.cells = [n]) :
    C 164 [.str s, .ptr 0 0] [.box (wantsA name n (.func g fst []) least most kids many am).cells] = some (.ret (.bool b) .same) := by
  rw [C_fn rfl Go.Proofs.Tryz.func164 rfl (by kernel_rfl) (m := 6) rfl]; simp only [sims, core, pe, Nat.reduceAdd, Int.reduceBEq, Int.reduceBNe, Int.reduceLT, Int.reduceLE, Go.Proofs.Tryz.f164, fx_164, List.append_nil, hr _, leave_clean 1 _ _ [] (by simp)]
end Go.Ab
