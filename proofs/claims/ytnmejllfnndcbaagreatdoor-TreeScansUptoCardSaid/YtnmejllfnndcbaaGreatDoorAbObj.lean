/- Methods of one box without names in it. -/
import Derived.Test.YtnmejllfnndcbaaGreatDoorAbBox
set_option linter.unusedSimpArgs false
set_option linter.unusedVariables false
namespace Go.Ab
theorem callA_one {c : Call} (hkeep : KeepCall c) {H : AHeap} {f : FuncId} {rest : List AVal} {v : AVal} {b : Nat} {x y : List AVal} (hr : refsL rest = []) (h1 : H[b]? = some (.box x)) (px : refsL x = []) (py : refsL y = [])
    (g : Gives c f (.ptr 0 0 :: rest) [.box x] v [.box y]) (hv : refs v = []) : GivesA c H f (.ptr b 0 :: rest) v (H.set b (.box y)) := by
  have l1 := (List.getElem?_eq_some_iff.1 h1).1
  have ha : refsL (.ptr b 0 :: rest) = [b] := by simp [refsL, refs, hr]
  refine callA_gives hkeep [b] ?_ (by simp) ?_ (?_ : Gives c f _ (subH H [b]) v [.box y]) hv ?_
  · rw [ha]; simp [reach, h1, px]
  · unfold subOk; simp [ha, h1, blkRefs, px]
  · have e1 : subH H [b] = [.box x] := by
      simp only [subH, List.map_cons, List.map_nil, List.getD_eq_getElem?_getD, h1, Option.getD_some, renB, ren_pure px]
    have e2 : renL (fun x => [b].idxOf x) (.ptr b 0 :: rest) = .ptr 0 0 :: rest := by
      simp only [renL, ren, ren_pure hr]; simp
    rw [e1, e2]; exact g
  · intro H' k
    apply List.ext_getElem?
    intro i
    by_cases e1 : b = i
    · subst e1
      rw [k.inn 0 b rfl, List.getElem?_set_self l1]
      simp [renB, ren_pure py]
    · rw [List.getElem?_set_ne e1]
      by_cases hi : i < H.length
      · exact k.out i hi (by simp [Ne.symm e1])
      · have e3 : ([Blk.box y] : List Blk)[[b].length + (i - H.length)]? = none := List.getElem?_eq_none (by simp)
        have e4 : H[i]? = none := List.getElem?_eq_none (by omega)
        rw [k.new i (by omega), e3, e4]
        rfl
/-- A method that changes nothing. -/
theorem callA_oneR {c : Call} {H : AHeap} {f : FuncId} {rest : List AVal} {v : AVal} {b : Nat} {x : List AVal} (hr : refsL rest = []) (h1 : H[b]? = some (.box x)) (px : refsL x = [])
    (g : c f (.ptr 0 0 :: rest) [.box x] = some (.ret v .same)) (hv : refs v = []) : callA c H f (.ptr b 0 :: rest) = some (.ret v .same) := by
  have ha : refsL (.ptr b 0 :: rest) = [b] := by simp [refsL, refs, hr]
  unfold callA
  have hidx : reach H 256 (refsL (.ptr b 0 :: rest)) [] = [b] := by rw [ha]; simp [reach, h1, px]
  have e1 : subH H [b] = [.box x] := by
    simp only [subH, List.map_cons, List.map_nil, List.getD_eq_getElem?_getD, h1, Option.getD_some, renB, ren_pure px]
  have e2 : renL (fun x => [b].idxOf x) (.ptr b 0 :: rest) = .ptr 0 0 :: rest := by
    simp only [renL, ren, ren_pure hr]; simp
  simp only [hidx]
  rw [if_pos (by unfold subOk; simp [ha, h1, blkRefs, px]), e1, e2, g]
  simp only
  rw [ren_same v (by rw [hv]; simp)]
  rfl
theorem stay_pure (n : Nat) (h : AHeap) (b : Nat) (cs : List AVal) (hb : h[b]? = some (.box cs)) (hp : ∀ v ∈ cs, (∃ k z, v = .int k z) ∨ (∃ s, v = .str s) ∨ (∃ x, v = .bool x) ∨ (∃ es, v = .slice es .free) ∨ (∃ es, v = .slice es .full)) : Stays n h b := by
  refine ⟨_, hb, fun mv => ?_⟩
  have key : ∀ cs : List AVal, (∀ v ∈ cs, (∃ k z, v = .int k z) ∨ (∃ s, v = .str s) ∨ (∃ x, v = .bool x) ∨ (∃ es, v = .slice es .free) ∨ (∃ es, v = .slice es .full)) → moveToks n h cs mv = some (cs, mv) := by
    intro cs
    induction cs with
    | nil => intro _; rfl
    | cons v r ih =>
      intro hv
      have ir := ih (fun u hu => hv u (by simp [hu]))
      rcases hv v (by simp) with ⟨k, z, rfl⟩ | ⟨s, rfl⟩ | ⟨x, rfl⟩ | ⟨es, rfl⟩ | ⟨es, rfl⟩ <;> (unfold moveToks; simp [lowA, refs, ir])
  unfold leaveBlk
  rw [hb]
  simp only [key cs hp]
end Go.Ab
