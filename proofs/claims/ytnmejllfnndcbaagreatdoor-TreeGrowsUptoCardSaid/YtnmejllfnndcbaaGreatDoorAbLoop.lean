/- Loops, and what a call without pointers leaves. -/
import Derived.Test.YtnmejllfnndcbaaGreatDoorAbSim
namespace Go.Ab
/-- A loop that counts from i to n: a round turns the state by 'step'. -/
theorem lpC_fold {A : Type} {f : St → Option (AEx × St)} {n : Nat} {Inv : Nat → A → St → Prop} {step : Nat → A → A} {ex : AEx} {Out : A → St → Prop} (hex : ∀ s s' : St, (ex, s) ≠ (AEx.normal, s'))
    (hs : ∀ i a s, i < n → Inv i a s → ∃ s', f s = some (.normal, s') ∧ Inv (i + 1) (step i a) s')
    (he : ∀ a s, Inv n a s → ∃ s', f s = some (ex, s') ∧ Out a s') :
    ∀ (d i : Nat) (a : A) (s : St), i + d = n → Inv i a s → ∃ s', lpC f s = some (ex, s') ∧ Out ((List.range' i d).foldl (fun x j => step j x) a) s'
  | 0, i, a, s, hd, hi => by
    have : i = n := by omega
    subst this
    obtain ⟨s', h1, h2⟩ := he a s hi
    refine ⟨s', ?_, h2⟩
    rw [lpC_eq, h1]
    split
    · rename_i s2 hh
      simp only [Option.some.injEq] at hh
      exact absurd hh (hex s' s2)
    · rfl
  | d + 1, i, a, s, hd, hi => by
    obtain ⟨s1, h1, h2⟩ := hs i a s (by omega) hi
    obtain ⟨s', h3, h4⟩ := lpC_fold hex hs he d (i + 1) (step i a) s1 (by omega) h2
    refine ⟨s', ?_, by simpa [List.range'_succ] using h4⟩
    rw [lpC_eq, h1]
    exact h3
/-- A loop over a list. -/
theorem lpC_list {α A : Type} {f : St → Option (AEx × St)} (l : List α) {Inv : Nat → A → St → Prop} {step : A → α → A} {ex : AEx} {Out : A → St → Prop} (hex : ∀ s s' : St, (ex, s) ≠ (AEx.normal, s'))
    (hs : ∀ i x a s, l[i]? = some x → Inv i a s → ∃ s', f s = some (.normal, s') ∧ Inv (i + 1) (step a x) s')
    (he : ∀ a s, Inv l.length a s → ∃ s', f s = some (ex, s') ∧ Out a s') :
    ∀ (r : List α) (i : Nat) (a : A) (s : St), l.drop i = r → i ≤ l.length → Inv i a s → ∃ s', lpC f s = some (ex, s') ∧ Out (r.foldl step a) s'
  | [], i, a, s, hd, hl, hi => by
    have : i = l.length := by have := congrArg List.length hd; simp at this; omega
    subst this
    obtain ⟨s', h1, h2⟩ := he a s hi
    refine ⟨s', ?_, h2⟩
    rw [lpC_eq, h1]
    split
    · rename_i s2 hh
      simp only [Option.some.injEq] at hh
      exact absurd hh (hex s' s2)
    · rfl
  | x :: r, i, a, s, hd, hl, hi => by
    have hx : l[i]? = some x := by
      have := congrArg (fun q => q[0]?) hd
      simpa using this
    have hlt := (List.getElem?_eq_some_iff.1 hx).1
    obtain ⟨s1, h1, h2⟩ := hs i x a s hx hi
    obtain ⟨s', h3, h4⟩ := lpC_list l hex hs he r (i + 1) (step a x) s1 (by rw [← List.drop_drop, hd]; rfl) (by omega) h2
    refine ⟨s', ?_, h4⟩
    rw [lpC_eq, h1]
    exact h3

theorem heap_last (h : AHeap) (b : Blk) : (h ++ [b])[h.length]? = some b := by simp
theorem heap_old (h : AHeap) (b : Blk) {i : Nat} {x : Blk} (hx : h[i]? = some x) : (h ++ [b])[i]? = some x := by
  rw [List.getElem?_append_left (List.getElem?_eq_some_iff.1 hx).1]; exact hx
theorem set_last (h : AHeap) (b x : Blk) : (h ++ [b]).set h.length x = h ++ [x] := by simp

theorem leave_pure (v : AVal) (h : AHeap) (d : List Nat) (hr : refs (strip3 v) = []) : leaveA 0 v h d = (strip3 v, .same) := by
  have hd : d.filter (· < 0) = [] := by simp
  unfold leaveA
  simp only [hd, dedup]
  rw [if_pos (by unfold lowA; rw [hr]; rfl)]

/-- A call without pointers. -/
theorem callA_pure {call : Call} {g : FuncId} {args : List AVal} {v : AVal} (h : AHeap) (ha : refsL args = []) (hv : refs v = []) (e : call g args [] = some (.ret v .same)) :
    callA call h g args = some (.ret v .same) := by
  unfold callA
  simp only [ha]
  have h1 : reach h 256 [] [] = [] := rfl
  simp only [h1]
  have h2 : subOk h [] args = true := by unfold subOk; rw [ha]; rfl
  rw [if_pos h2]
  have h3 : renL (fun x => List.idxOf x []) args = args := renL_same args (by rw [ha]; simp)
  rw [h3]
  have h4 : subH h [] = [] := rfl
  rw [h4, e]
  simp only [backE]
  rw [ren_same v (by rw [hv]; simp)]
end Go.Ab
