/- What a call leaves: soundness. -/
import Derived.Test.YtnmejllfnndcbaaGreatDoorAbCode6
namespace Go.Ab
variable {P : Program} {cmp : List TypeId} {call : Call}

def Sh.cut (S : Sh) (n : Nat) (mv : List Nat) : Sh :=
  { M := S.M, ρ := fun b => if b < n then S.ρ b else none, τ := fun b => if b < n then S.τ b else (mv[b - n]?).bind S.τ, F := S.F }

theorem VR.cut {S : Sh} {n : Nat} {mv : List Nat} {a : AVal} {v : Value} (k : VR S a v) (h : ∀ b ∈ refs a, b < n) : VR (S.cut n mv) a v := by
  have := k.ren (S := S) (S' := S.cut n mv) (fun x => x) (fun _ _ h => h) (fun b hb => by
    have hb' := h b hb
    exact ⟨fun r hr => by simp only [Sh.cut]; rw [if_pos hb']; exact hr, fun x hx => by simp only [Sh.cut]; rw [if_pos hb']; exact hx⟩)
  rwa [ren_same a (fun _ _ => rfl)] at this
theorem VR.cutA {S : Sh} {n : Nat} {mv : List Nat} {a : AVal} {v : Value} (k : VR S a v) (h : lowA n a = true) : VR (S.cut n mv) a v :=
  k.cut (fun b hb => by
    unfold lowA at h
    have := List.all_eq_true.1 h b hb
    simpa using this)
theorem pure_refs {a : AVal} (h : pureA a = true) : refs a = [] := by
  unfold pureA at h; simp only [Bool.and_eq_true] at h; simpa using h.2

/-- What a related value names is there. -/
theorem VR.refs_there {S : Sh} {a : AVal} {v : Value} (k : VR S a v) : ∀ b ∈ refs a, (∃ r, S.ρ b = some r) ∨ ∃ x, S.τ b = some x := by
  induction k with
  | ptr b o r e => intro c hc; simp [refs] at hc; subst hc; exact .inl ⟨r, e⟩
  | slice es tk ad m cap esz vs hn hc hcm hsp hsz h1 hp _ ht ih =>
    intro c hc
    cases tk with
    | own t =>
      simp [refs] at hc; subst hc
      obtain ⟨r, c, l, t1, _⟩ := ht
      exact .inr ⟨_, t1⟩
    | free => simp [refs] at hc
    | full => simp [refs] at hc
  | snil tk e => intro c hc; rcases e with rfl | rfl <;> simp [refs] at hc
  | func f x y p q hx hy _ _ i1 i2 =>
    intro c hc
    simp only [refs, List.mem_append, mem_refsL] at hc
    rcases hc with ⟨a, ha, hb⟩ | ⟨a, ha, hb⟩
    · obtain ⟨j, hj, rfl⟩ := List.getElem_of_mem ha
      exact i1 j _ _ (List.getElem?_eq_getElem hj) (Array.getElem?_eq_getElem (by omega)) c hb
    · obtain ⟨j, hj, rfl⟩ := List.getElem_of_mem ha
      exact i2 j _ _ (List.getElem?_eq_getElem hj) (Array.getElem?_eq_getElem (by omega)) c hb
  | iface t a v _ ih => intro c hc; exact ih c (by simpa [refs] using hc)
  | agg x p hx _ ih =>
    intro c hc
    simp only [refs, mem_refsL] at hc
    obtain ⟨a, ha, hb⟩ := hc
    obtain ⟨j, hj, rfl⟩ := List.getElem_of_mem ha
    exact ih j _ _ (List.getElem?_eq_getElem hj) (Array.getElem?_eq_getElem (by omega)) c hb
  | tuple x p hx _ ih =>
    intro c hc
    simp only [refs, mem_refsL] at hc
    obtain ⟨a, ha, hb⟩ := hc
    obtain ⟨j, hj, rfl⟩ := List.getElem_of_mem ha
    exact ih j _ _ (List.getElem?_eq_getElem hj) (Array.getElem?_eq_getElem (by omega)) c hb
  | _ => intro c hc; simp [refs] at hc

/-- What was related in an earlier, smaller shape. -/
theorem VR.cut_old {S0 S : Sh} {n : Nat} {mv : List Nat} (hρ : ∀ b r, S0.ρ b = some r → b < n) (hτ : ∀ b x, S0.τ b = some x → b < n) {a : AVal} {v : Value} (k : VR S a v) {v0 : Value} (k0 : VR S0 a v0) : VR (S.cut n mv) a v :=
  k.cut (fun b hb => by
    rcases k0.refs_there b hb with ⟨r, h⟩ | ⟨x, h⟩
    · exact hρ b r h
    · exact hτ b x h)

/-- What becomes of a cell. -/
def Moved (n : Nat) (mv : List Nat) (a a' : AVal) : Prop :=
  (a' = a ∧ lowA n a = true) ∨ (∃ es t i, a = .slice es (.own t) ∧ mv[i]? = some t ∧ a' = .slice es (.own (n + i))) ∨ ∃ es t, a = .slice es (.own t) ∧ a' = .slice es .free
theorem Moved.mono {n : Nat} {mv mv' : List Nat} (h : mv <+: mv') {a a' : AVal} (k : Moved n mv a a') : Moved n mv' a a' := by
  rcases k with k | ⟨es, t, i, h1, h2, h3⟩ | k
  · exact .inl k
  · obtain ⟨r, rfl⟩ := h
    exact .inr (.inl ⟨es, t, i, h1, by rw [List.getElem?_append_left (List.getElem?_eq_some_iff.1 h2).1]; exact h2, h3⟩)
  · exact .inr (.inr k)
theorem Moved.vr {S : Sh} {n : Nat} {mv : List Nat} {a a' : AVal} {v : Value} (k : Moved n mv a a') (h : VR S a v) : VR (S.cut n mv) a' v := by
  rcases k with ⟨rfl, hl⟩ | ⟨es, t, i, rfl, h2, rfl⟩ | ⟨es, t, rfl, rfl⟩
  · exact h.cutA hl
  · cases h with
    | slice _ _ ad m cap esz vs hn hc hcm hsp hsz h1 hp g2 ht =>
      refine .slice es _ ad m cap esz vs hn hc hcm hsp hsz h1 hp (fun i c j a hi hj => (g2 i c j a hi hj).cut (fun b hb => by rw [pure_refs (hp c (List.mem_of_getElem? hi) a (List.mem_of_getElem? hj))] at hb; cases hb)) ?_
      obtain ⟨r, c, l, t1, t2⟩ := ht
      refine ⟨r, c, l, ?_, t2⟩
      simp only [Sh.cut]
      rw [if_neg (by omega), show n + i - n = i by omega, h2]
      exact t1
    | snil _ e => rcases e with e | e <;> cases e
  · cases h with
    | slice _ _ ad m cap esz vs hn hc hcm hsp hsz h1 hp g2 ht =>
      exact .slice es _ ad m cap esz vs hn hc hcm hsp hsz h1 hp (fun i c j a hi hj => (g2 i c j a hi hj).cut (fun b hb => by rw [pure_refs (hp c (List.mem_of_getElem? hi) a (List.mem_of_getElem? hj))] at hb; cases hb)) trivial
    | snil _ e => rcases e with e | e <;> cases e

structure MvOk (n : Nat) (h : AHeap) (mv : List Nat) : Prop where
  nd : mv.Nodup
  tk : ∀ t ∈ mv, n ≤ t ∧ ∃ k e, h[t]? = some (.tok k e)

theorem moveToks_sound {n : Nat} {h : AHeap} : ∀ (cs : List AVal) (mv : List Nat) (l : List AVal) (mv' : List Nat), moveToks n h cs mv = some (l, mv') → MvOk n h mv →
    mv <+: mv' ∧ MvOk n h mv' ∧ l.length = cs.length ∧ ∀ (j : Nat) (a' : AVal), l[j]? = some a' → ∃ a, cs[j]? = some a ∧ Moved n mv' a a'
  | [], mv, l, mv', e, hk => by cases e; exact ⟨List.prefix_refl _, hk, rfl, fun j a' hj => by simp at hj⟩
  | c :: r, mv, l, mv', e, hk => by
    have step : ∀ (mv1 : List Nat) (l' : List AVal) (c' : AVal), mv <+: mv1 → MvOk n h mv1 → moveToks n h r mv1 = some (l', mv') → Moved n mv1 c c' → l = c' :: l' →
        mv <+: mv' ∧ MvOk n h mv' ∧ l.length = (c :: r).length ∧ ∀ (j : Nat) (a' : AVal), l[j]? = some a' → ∃ a, (c :: r)[j]? = some a ∧ Moved n mv' a a' := by
      intro mv1 l' c' hp hk1 hr hm hl
      subst hl
      obtain ⟨g1, g2, g3, g4⟩ := moveToks_sound r mv1 l' mv' hr hk1
      refine ⟨hp.trans g1, g2, by simp [g3], fun j a' hj => ?_⟩
      cases j with
      | zero => simp at hj; subst hj; exact ⟨c, rfl, hm.mono g1⟩
      | succ j => exact g4 j a' (by simpa using hj)
    have plain : ∀ (hl : lowA n c = true), (match moveToks n h r mv with | some (l, mv') => some (c :: l, mv') | none => none) = some (l, mv') →
        mv <+: mv' ∧ MvOk n h mv' ∧ l.length = (c :: r).length ∧ ∀ (j : Nat) (a' : AVal), l[j]? = some a' → ∃ a, (c :: r)[j]? = some a ∧ Moved n mv' a a' := by
      intro hl e
      split at e
      · rename_i l1 mv1 h1
        cases e
        exact step mv l1 c (List.prefix_refl _) hk h1 (.inl ⟨rfl, hl⟩) rfl
      · cases e
    have other : (if lowA n c = true then (match moveToks n h r mv with | some (l, mv') => some (c :: l, mv') | none => none) else none) = some (l, mv') →
        mv <+: mv' ∧ MvOk n h mv' ∧ l.length = (c :: r).length ∧ ∀ (j : Nat) (a' : AVal), l[j]? = some a' → ∃ a, (c :: r)[j]? = some a ∧ Moved n mv' a a' := by
      intro e
      split at e
      · rename_i hl; exact plain hl e
      · cases e
    cases c with
    | slice es tk =>
      cases tk with
      | own t =>
        simp only [moveToks] at e
        split at e
        · rename_i ht
          exact plain (by simpa [lowA, refs] using ht) e
        · rename_i ht
          split at e
          · rename_i k e' hb
            split at e
            · rename_i hc
              simp only [Bool.and_eq_true, decide_eq_true_eq, Bool.not_eq_true', List.contains_eq_mem, decide_eq_false_iff_not] at hc
              split at e
              · rename_i l1 mv1 h1
                cases e
                refine step (mv ++ [t]) l1 _ (List.prefix_append _ _) ⟨?_, ?_⟩ h1 (.inr (.inl ⟨es, t, mv.length, rfl, by simp, rfl⟩)) rfl
                · rw [List.nodup_append]
                  refine ⟨hk.nd, by simp, fun a ha b hb => ?_⟩
                  simp at hb; subst hb
                  exact fun e => hc.2 (e ▸ ha)
                · intro q hq
                  rcases List.mem_append.1 hq with hq | hq
                  · exact hk.tk q hq
                  · simp at hq; subst hq; exact ⟨by omega, k, e', hb⟩
              · cases e
            · split at e
              · rename_i l1 mv1 h1
                cases e
                exact step mv l1 _ (List.prefix_refl _) hk h1 (.inr (.inr ⟨es, t, rfl, rfl⟩)) rfl
              · cases e
          · cases e
      | _ => simp only [moveToks] at e; exact other e
    | _ => simp only [moveToks] at e; exact other e

/-- What becomes of a written block. -/
def MovedBlk (n : Nat) (h : AHeap) (mv : List Nat) (b : Nat) (x : Blk) : Prop :=
  (∃ cs l, h[b]? = some (.box cs) ∧ x = .box l ∧ l.length = cs.length ∧ ∀ (j : Nat) (a' : AVal), l[j]? = some a' → ∃ a, cs[j]? = some a ∧ Moved n mv a a') ∨ (∃ k e, h[b]? = some (.tok k e) ∧ x = .tok k e)

theorem leaveBlk_sound {n : Nat} {h : AHeap} {b : Nat} {mv mv' : List Nat} {x : Blk} (e : leaveBlk n h b mv = some (x, mv')) (hk : MvOk n h mv) : mv <+: mv' ∧ MvOk n h mv' ∧ MovedBlk n h mv' b x := by
  unfold leaveBlk at e
  split at e
  · rename_i cs hb
    split at e
    · rename_i l mv1 h1
      cases e
      obtain ⟨g1, g2, g3, g4⟩ := moveToks_sound cs mv l mv' h1 hk
      exact ⟨g1, g2, .inl ⟨cs, l, hb, rfl, g3, g4⟩⟩
    · cases e
  · rename_i k e' hb
    cases e
    exact ⟨List.prefix_refl _, hk, .inr ⟨k, e', hb, rfl⟩⟩
  · cases e

theorem leaveBlks_sound {n : Nat} {h : AHeap} : ∀ (d : List Nat) (k : AHeap) (mv : List Nat) (k' : AHeap) (mv' : List Nat), leaveBlks n h d k mv = some (k', mv') → MvOk n h mv → d.Nodup → (∀ b ∈ d, b < k.length) →
    mv <+: mv' ∧ MvOk n h mv' ∧ ∀ b ∈ d, ∃ x, k'[b]? = some x ∧ MovedBlk n h mv' b x
  | [], k, mv, k', mv', e, hk, _, _ => by cases e; exact ⟨List.prefix_refl _, hk, fun b hb => by cases hb⟩
  | b :: r, k, mv, k', mv', e, hk, hnd, hlt => by
    simp only [leaveBlks] at e
    split at e
    · rename_i x mv1 h1
      obtain ⟨g1, g2, g3⟩ := leaveBlk_sound h1 hk
      obtain ⟨hbr, hnd'⟩ := List.nodup_cons.1 hnd
      obtain ⟨q1, q2, q3⟩ := leaveBlks_sound r _ mv1 k' mv' e g2 hnd' (fun c hc => by have := hlt c (by simp [hc]); simpa using this)
      refine ⟨g1.trans q1, q2, fun c hc => ?_⟩
      rcases List.mem_cons.1 hc with rfl | hc
      · refine ⟨x, ?_, ?_⟩
        · rw [(leaveBlks_keep n h r _ _ _ _ e).2 c hbr, List.getElem?_set_self (hlt c (by simp))]
        · rcases g3 with ⟨cs, l, h2, h3, h4, h5⟩ | g3
          · exact .inl ⟨cs, l, h2, h3, h4, fun j a' hj => let ⟨a, h6, h7⟩ := h5 j a' hj; ⟨a, h6, h7.mono q1⟩⟩
          · exact .inr g3
      · exact q3 c hc
    · cases e

theorem filterMap_get {α β : Type} {f : α → Option β} : ∀ (l : List α), (∀ a ∈ l, (f a).isSome = true) → ∀ j : Nat, (l.filterMap f)[j]? = (l[j]?).bind f
  | [], _, j => by simp
  | a :: l, h, j => by
    obtain ⟨b, hb⟩ := Option.isSome_iff_exists.1 (h a (by simp))
    rw [List.filterMap_cons_some hb]
    cases j with
    | zero => simp [hb]
    | succ j => simpa using filterMap_get l (fun x hx => h x (by simp [hx])) j
end Go.Ab
