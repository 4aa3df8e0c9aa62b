/- Calls see the blocks that their arguments reach, renumbered: soundness. -/
import Derived.Test.YtnmejllfnndcbaaGreatDoorAbOp8
namespace Go.Ab
variable {P : Program}

theorem renL_get (σ : Nat → Nat) : ∀ (l : List AVal) (j : Nat), (renL σ l)[j]? = (l[j]?).map (ren σ)
  | [], j => by simp [renL]
  | v :: r, j => by
    cases j with
    | zero => simp [renL]
    | succ j => simpa [renL] using renL_get σ r j
theorem renL_length (σ : Nat → Nat) : ∀ l : List AVal, (renL σ l).length = l.length
  | [] => rfl
  | v :: r => by simp [renL, renL_length σ r]
theorem mem_refsL {l : List AVal} {b : Nat} : b ∈ refsL l ↔ ∃ a ∈ l, b ∈ refs a := by
  induction l with
  | nil => simp [refsL]
  | cons v r ih => simp [refsL, ih]
theorem refsL_sub {l : List AVal} {j : Nat} {a : AVal} (h : l[j]? = some a) {b : Nat} (hb : b ∈ refs a) : b ∈ refsL l := mem_refsL.2 ⟨a, List.mem_of_getElem? h, hb⟩

mutual
theorem ren_same {σ : Nat → Nat} : ∀ (a : AVal), (∀ b ∈ refs a, σ b = b) → ren σ a = a
  | .ptr b o, h => by simp only [ren, h b (by simp [refs])]
  | .slice es .free, h => rfl
  | .slice es .full, h => rfl
  | .slice es (.own t), h => by simp only [ren, h t (by simp [refs])]
  | .func f a b, h => by
    simp only [ren]
    rw [renL_same a (fun x hx => h x (by simp [refs, hx])), renL_same b (fun x hx => h x (by simp [refs, hx]))]
  | .iface t v, h => by simp only [ren]; rw [ren_same v (fun x hx => h x (by simpa [refs] using hx))]
  | .agg cs, h => by simp only [ren]; rw [renL_same cs (fun x hx => h x (by simpa [refs] using hx))]
  | .tuple cs, h => by simp only [ren]; rw [renL_same cs (fun x hx => h x (by simpa [refs] using hx))]
  | .undef, _ => rfl
  | .bool _, _ => rfl
  | .int _ _, _ => rfl
  | .str _, _ => rfl
  | .nilp, _ => rfl
  | .eptr _ _, _ => rfl
  | .nilf, _ => rfl
  | .nili, _ => rfl
theorem renL_same {σ : Nat → Nat} : ∀ (l : List AVal), (∀ b ∈ refsL l, σ b = b) → renL σ l = l
  | [], _ => rfl
  | v :: r, h => by
    simp only [renL]
    rw [ren_same v (fun x hx => h x (by simp [refsL, hx])), renL_same r (fun x hx => h x (by simp [refsL, hx]))]
end
mutual
theorem ren_ren {σ τ : Nat → Nat} : ∀ (a : AVal), ren τ (ren σ a) = ren (fun x => τ (σ x)) a
  | .ptr b o => rfl
  | .slice es .free => rfl
  | .slice es .full => rfl
  | .slice es (.own t) => rfl
  | .func f a b => by simp only [ren]; rw [renL_renL a, renL_renL b]
  | .iface t v => by simp only [ren]; rw [ren_ren v]
  | .agg cs => by simp only [ren]; rw [renL_renL cs]
  | .tuple cs => by simp only [ren]; rw [renL_renL cs]
  | .undef => rfl
  | .bool _ => rfl
  | .int _ _ => rfl
  | .str _ => rfl
  | .nilp => rfl
  | .eptr _ _ => rfl
  | .nilf => rfl
  | .nili => rfl
theorem renL_renL {σ τ : Nat → Nat} : ∀ (l : List AVal), renL τ (renL σ l) = renL (fun x => τ (σ x)) l
  | [] => rfl
  | v :: r => by simp only [renL]; rw [ren_ren v, renL_renL r]
end

/-- A renaming carries the relation. -/
theorem VR.ren {S S' : Sh} (σ : Nat → Nat) (hM : ∀ a v, S.M a = some v → S'.M a = some v) {a : AVal} {v : Value} (k : VR S a v) :
    (∀ b ∈ refs a, (∀ r, S.ρ b = some r → S'.ρ (σ b) = some r) ∧ ∀ x, S.τ b = some x → S'.τ (σ b) = some x) → VR S' (Go.Ab.ren σ a) v := by
  have pure0 : ∀ a : AVal, pureA a = true → refs a = [] := fun a h => by
    unfold pureA at h; simp only [Bool.and_eq_true] at h; simpa using h.2
  have pure1 : ∀ a : AVal, pureA a = true → Go.Ab.ren σ a = a := fun a h => ren_same a (by rw [pure0 a h]; simp)
  induction k with
  | undef => intro _; exact .undef
  | bool b => intro _; exact .bool b
  | int k n => intro _; exact .int k n
  | str s l e => intro _; exact .str s l e
  | nilp => intro _; exact .nilp
  | ptr b o r e => intro h; exact .ptr _ o r ((h b (by simp [refs])).1 r e)
  | eptr cs o r o0 vs h1 hp _ ih =>
    intro _
    refine .eptr cs o r o0 vs (fun j a hj => hM _ _ (h1 j a hj)) hp (fun j a hj => ?_)
    have hpa := hp a (List.mem_of_getElem? hj)
    have := ih j a hj (by rw [pure0 a hpa]; simp)
    rwa [pure1 a hpa] at this
  | slice es tk ad m cap esz vs hn hc hcm hsp hsz h1 hp _ ht ih =>
    intro h
    have h2 : ∀ (i : Nat) (c : List AVal) (j : Nat) (a : AVal), es[i]? = some c → c[j]? = some a → VR S' a (vs (i * esz + j)) := by
      intro i c j a hi hj
      have hpa := hp c (List.mem_of_getElem? hi) a (List.mem_of_getElem? hj)
      have := ih i c j a hi hj (by rw [pure0 a hpa]; simp)
      rwa [pure1 a hpa] at this
    cases tk with
    | free => exact .slice es _ ad m cap esz vs hn hc hcm hsp hsz (fun i c j a hi hj => hM _ _ (h1 i c j a hi hj)) hp h2 trivial
    | full => exact .slice es _ ad m cap esz vs hn hc hcm hsp hsz (fun i c j a hi hj => hM _ _ (h1 i c j a hi hj)) hp h2 ht
    | own t =>
      obtain ⟨r, c, l, t1, t2⟩ := ht
      exact .slice es _ ad m cap esz vs hn hc hcm hsp hsz (fun i c j a hi hj => hM _ _ (h1 i c j a hi hj)) hp h2 ⟨r, c, l, (h t (by simp [refs])).2 _ t1, t2⟩
  | snil tk e => intro h; rcases e with rfl | rfl <;> exact .snil _ (by simp)
  | func f x y p q hx hy _ _ i1 i2 =>
    intro h
    simp only [Go.Ab.ren]
    refine .func f _ _ p q (by rw [renL_length]; exact hx) (by rw [renL_length]; exact hy) (fun j u v hu hv => ?_) (fun j u v hu hv => ?_)
    · rw [renL_get] at hu
      cases ha : x[j]? with
      | none => simp [ha] at hu
      | some a => simp [ha] at hu; subst hu; exact i1 j a v ha hv (fun b hb => h b (by simp only [refs, List.mem_append]; exact .inl (refsL_sub ha hb)))
    · rw [renL_get] at hu
      cases ha : y[j]? with
      | none => simp [ha] at hu
      | some a => simp [ha] at hu; subst hu; exact i2 j a v ha hv (fun b hb => h b (by simp only [refs, List.mem_append]; exact .inr (refsL_sub ha hb)))
  | nilf => intro _; exact .nilf
  | iface t a v _ ih => intro h; exact .iface t _ v (ih (fun b hb => h b (by simpa [refs] using hb)))
  | nili => intro _; exact .nili
  | agg x p hx _ ih =>
    intro h
    simp only [Go.Ab.ren]
    refine .agg _ p (by rw [renL_length]; exact hx) (fun j u v hu hv => ?_)
    rw [renL_get] at hu
    cases ha : x[j]? with
    | none => simp [ha] at hu
    | some a => simp [ha] at hu; subst hu; exact ih j a v ha hv (fun b hb => h b (by simp only [refs]; exact refsL_sub ha hb))
  | tuple x p hx _ ih =>
    intro h
    simp only [Go.Ab.ren]
    refine .tuple _ p (by rw [renL_length]; exact hx) (fun j u v hu hv => ?_)
    rw [renL_get] at hu
    cases ha : x[j]? with
    | none => simp [ha] at hu
    | some a => simp [ha] at hu; subst hu; exact ih j a v ha hv (fun b hb => h b (by simp only [refs]; exact refsL_sub ha hb))
theorem VRl.ren {S S' : Sh} (σ : Nat → Nat) (hM : ∀ a v, S.M a = some v → S'.M a = some v) {l : List AVal} {x : List Value} (k : VRl S l x)
    (h : ∀ b ∈ refsL l, (∀ r, S.ρ b = some r → S'.ρ (σ b) = some r) ∧ ∀ x, S.τ b = some x → S'.τ (σ b) = some x) : VRl S' (renL σ l) x := by
  refine ⟨by rw [renL_length]; exact k.1, fun j u v hu hv => ?_⟩
  rw [renL_get] at hu
  cases ha : l[j]? with
  | none => simp [ha] at hu
  | some a => simp [ha] at hu; subst hu; exact (k.2 j a v ha hv).ren σ hM (fun b hb => h b (refsL_sub ha hb))

theorem reach_nodup (h : AHeap) : ∀ (n : Nat) (todo done : List Nat), done.Nodup → (reach h n todo done).Nodup
  | 0, _, done, hd => hd
  | n + 1, [], done, hd => hd
  | n + 1, b :: r, done, hd => by
    unfold reach
    split
    · exact reach_nodup h n r done hd
    · rename_i hc
      have hnd : (done ++ [b]).Nodup := by
        rw [List.nodup_append]
        refine ⟨hd, by simp, fun a ha c hc' => ?_⟩
        simp at hc'; subst hc'
        intro e; subst e
        rw [List.contains_eq_mem] at hc
        simp [ha] at hc
      split <;> exact reach_nodup h n _ _ hnd

theorem idxOf_get {idx : List Nat} {b : Nat} (h : b ∈ idx) : idx[idx.idxOf b]? = some b := by
  rw [List.getElem?_eq_getElem (List.idxOf_lt_length_of_mem h)]
  simp
theorem get_idxOf {idx : List Nat} (hn : idx.Nodup) {i b : Nat} (h : idx[i]? = some b) : idx.idxOf b = i := by
  have hi := (List.getElem?_eq_some_iff.1 h).1
  have := idxOf_get (List.mem_of_getElem? h)
  have h2 := (List.getElem?_inj hi hn).1 (h.trans this.symm)
  exact h2.symm

theorem putBack_length (idx : List Nat) (n : Nat) (h' : AHeap) : ∀ (d : List Nat) (h : AHeap), (putBack idx n h' d h).length = h.length
  | [], h => rfl
  | i :: r, h => by
    unfold putBack
    rw [putBack_length idx n h' r]
    split <;> simp
theorem putBack_other (idx : List Nat) (n : Nat) (h' : AHeap) {b : Nat} : ∀ (d : List Nat) (h : AHeap), (∀ i ∈ d, idx[i]? ≠ some b) → (putBack idx n h' d h)[b]? = h[b]?
  | [], h, _ => rfl
  | i :: r, h, hd => by
    unfold putBack
    rw [putBack_other idx n h' r _ (fun j hj => hd j (by simp [hj]))]
    split
    · rename_i c x hc _
      rw [List.getElem?_set_ne]
      intro e; subst e
      exact hd i (by simp) hc
    · rfl
theorem putBack_same (idx : List Nat) (hn : idx.Nodup) (n : Nat) (h' : AHeap) {b i : Nat} {x : Blk} (hb : idx[i]? = some b) (hx : h'[i]? = some x) : ∀ (d : List Nat) (h : AHeap), i ∈ d → b < h.length →
    (putBack idx n h' d h)[b]? = some (renB (backN n idx) x)
  | [], h, hi, _ => by cases hi
  | j :: r, h, hi, hl => by
    unfold putBack
    by_cases hir : i ∈ r
    · exact putBack_same idx hn n h' hb hx r _ hir (by split <;> simpa using hl)
    · have hij : i = j := by
        rcases List.mem_cons.1 hi with h | h
        · exact h
        · exact absurd h hir
      subst hij
      rw [putBack_other]
      · simp only [hb, hx]
        exact List.getElem?_set_self hl
      · intro k hk e
        have e2 : k = i := (get_idxOf hn e).symm.trans (get_idxOf hn hb)
        exact hir (by rw [← e2]; exact hk)

theorem renB_back {idx : List Nat} {x : Blk} (hx : ∀ c ∈ blkRefs x, c ∈ idx) (n : Nat) : renB (backN n idx) (renB (fun y => idx.idxOf y) x) = x := by
  have key : ∀ b ∈ idx, backN n idx (idx.idxOf b) = b := fun b hb => by
    have h1 := idxOf_get hb
    have h2 := List.idxOf_lt_length_of_mem hb
    simp only [backN, h2, if_true, List.getD_eq_getElem?_getD, h1, Option.getD_some]
  cases x with
  | box cs =>
    simp only [renB]
    rw [renL_renL, renL_same cs (fun b hb => key b (hx b hb))]
  | tok l e => rfl
end Go.Ab
