/- The seat's calls: which heap is left. -/
import Derived.Test.YtnmejllfnndcbaaGreatDoorAbBase
import Derived.Test.YtnmejllfnndcbaaGreatDoorAbEff
set_option linter.unusedSimpArgs false
set_option linter.unusedVariables false
namespace Go.Ab
open Go Go.Ab.Tab
theorem keepN : ∀ n, KeepCall (evN PP cmp0 ext0 n)
  | 0 => fun f args h r e => by cases e
  | n + 1 => fun f args h r e => by
    unfold evN at e
    split at e
    · rename_i g hg
      unfold ext0 at hg
      split at hg
      · cases hg; exact ext_keep_join args h r e
      · split at hg
        · cases hg; exact ext_keep_int args h r e
        · cases hg
    · exact fnA_keep (keepN n) (loopN_ok n) f args h r e
theorem keepC : KeepCall C := fun f args h r e => by
  obtain ⟨n, hn⟩ := lim_of e
  exact keepN n f args h r hn
theorem C_gives {f : FuncId} {fn : Func} {c : Code} (hx : ext0 f = none) (hf : PP.funcs[f]? = some fn) (hb : fn.body = some c) (hd : drawnOk c = true) {a : List AVal} {h : AHeap} {m : Nat} (hm : fn.ntmps - a.length = m) {v : AVal} {h1 : AHeap}
    (e : finE PP h.length fn.results.toList v h1 (codeB PP cmp0 C lpC c ⟨a ++ List.replicate m .undef, h, []⟩)) : Gives C f a h v h1 := gives_of_fin keepC hx hf hb hd hm e
end Go.Ab
/- The printer's words are put. -/
namespace Go.Ab
open Go Go.Ab.Tab
set_option maxRecDepth 100000
set_option maxHeartbeats 4000000
set_option linter.unusedSimpArgs false
theorem C_finF {f : FuncId} {fn : Func} {c : Code} (hx : ext0 f = none) (hf : PP.funcs[f]? = some fn) (hb : fn.body = some c) (hd : drawnOk c = true) {a : List AVal} {h : AHeap} {m : Nat} (hm : fn.ntmps - a.length = m) {v : AVal} {h1 : AHeap}
    (e : finF PP h fn.results.toList v h1 (codeB PP cmp0 C lpC c ⟨a ++ List.replicate m .undef, h, []⟩)) : Gives C f a h v h1 := gives_of_finF keepC hx hf hb hd hm e
abbrev PrW (f : FuncId) (rest : List AVal) (out : List Str) : Prop := PrC 9 C f rest out
abbrev PrV (f : FuncId) (rest : List AVal) (out : List Str) : Prop := PrO 9 C f rest out
theorem put_c (l : List Str) (hl : l ≠ []) : PrW 34 [.slice (encS l) .full] l := by
  intro ws tk h c hb
  have hne : ¬ encS l = [] := by cases l with
    | nil => exact absurd rfl hl
    | cons => simp [encS]
  have hc := c
  cases tk with
  | some t =>
    obtain ⟨rfl, rfl⟩ := c
    have hap : appendA PP [.box [.slice (encS ws) (.own 1)], .tok ws.length 9] 33 (.slice (encS ws) (.own 1)) (.slice (encS l) .full) = some (.slice (encS (ws ++ l)) (.own 1), .heap [.box [.slice (encS ws) (.own 1)], .tok (ws ++ l).length 9] [1]) := by
      rw [app_own _ ao_33 (by rw [encS_len, encS_len]; exact hb) (headOk_elems (encS_one _)) (headOk_elems (encS_one _)) hne (by rw [encS_len]; rfl) rfl]
      simp [encS_app, encS_len]
    refine C_finF rfl Go.Proofs.Tryz.func34 rfl (by kernel_rfl) (m := 11) rfl ?_; simp only [sims, core, pe, Nat.reduceAdd, Int.reduceBEq, Int.reduceBNe, Int.reduceLT, Int.reduceLE, Go.Proofs.Tryz.f34, effs, fx_34, hap]
    exact fin_pr hc (fun _ => hl) (.inr rfl) rfl (fun _ e => Option.some.inj e) (fun e => by cases e) ⟨rfl, by simp⟩
  | none =>
    obtain ⟨rfl, rfl⟩ := c
    have hap : appendA PP [.box [.slice [] .full]] 33 (.slice [] .full) (.slice (encS l) .full) = some (.slice (encS l) (.own 1), .heap [.box [.slice [] .full], .tok l.length 9] []) := by
      rw [app_full _ ao_33 (by rw [encS_len]; simpa using hb) rfl (headOk_elems (encS_one _)) hne]
      simp [encS_len]
    refine C_finF rfl Go.Proofs.Tryz.func34 rfl (by kernel_rfl) (m := 11) rfl ?_; simp only [sims, core, pe, Nat.reduceAdd, Int.reduceBEq, Int.reduceBNe, Int.reduceLT, Int.reduceLE, Go.Proofs.Tryz.f34, effs, fx_34, hap]
    exact fin_pr hc (fun _ => hl) (.inr rfl) rfl (t := 1) (fun _ e => by cases e) (fun _ => Nat.le_refl _) ⟨rfl, by simp⟩
end Go.Ab
