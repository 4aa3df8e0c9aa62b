/- Calls whose first argument is a slice of whatever owner. -/
import Derived.Test.YtnmejllfnndcbaaGreatDoorAbBox
set_option linter.unusedSimpArgs false
set_option linter.unusedVariables false
namespace Go.Ab
theorem callA_tk2 {f : FuncId} {es : List (List AVal)} {tk : Tk} {s v : AVal} {H : AHeap} (hs : refs s = []) (hren : ∀ σ, ren σ s = s) (c : ∀ tk B, (∀ t, tk = .own t → ∃ k e, B[t]? = some (.tok k e)) → C f [.slice es tk, s] B = some (.ret v .same)) (hv : refs v = []) (ht : ∀ t, tk = .own t → ∃ k e, H[t]? = some (.tok k e)) :
    callA C H f [.slice es tk, s] = some (.ret v .same) := by
  cases tk with
  | free => exact callA_idx [] (by simp [refsL, refs, hs, reach]) (by simp [subOk, refsL, refs, hs]) (by simp only [renL, ren, hren]; exact c _ _ (fun t h => by cases h)) hv
  | full => exact callA_idx [] (by simp [refsL, refs, hs, reach]) (by simp [subOk, refsL, refs, hs]) (by simp only [renL, ren, hren]; exact c _ _ (fun t h => by cases h)) hv
  | own t =>
    obtain ⟨k, e, hk⟩ := ht t rfl
    refine callA_idx [t] (by simp [refsL, refs, hs, reach, hk]) (by simp [subOk, refsL, refs, hs, hk, blkRefs]) ?_ hv
    simp only [renL, ren, hren]
    refine c _ _ (fun t' h => ?_)
    have h0 : t' = 0 := by simp at h; exact h.symm
    subst h0
    exact ⟨k, e, by simp [subH, hk, List.getD_eq_getElem?_getD, renB]⟩
end Go.Ab
