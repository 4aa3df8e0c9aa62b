/- Soundness of the single operations: append. -/
import Derived.Test.YtnmejllfnndcbaaGreatDoorAbOp6
namespace Go.Ab
variable {P : Program} {S : Sh} {h : AHeap} {w : World}

/-- A new block whose first cells no longer change and whose rest the token b owns. -/
def Sh.withTok (S : Sh) (b r cap len : Nat) (X : List Value) : Sh :=
  { S with M := fun a => if a.block = r ∧ a.spot = none then X[a.off]? else S.M a, τ := fun i => if i = b then some (r, cap, len) else S.τ i }

theorem newTok [Tabs P] (k : WR P S h w) {C : Array Value} {e : TypeId} {i : TypeInfo} {X Y : List Value} {cap len : Nat} (hi : P.info? e = some i) (h0 : 0 < i.size) (hC : C.toList = X ++ Y)
    (hsz : C.size = cap * i.size) (hX : X.length = len * i.size) (hlc : len ≤ cap) (hcm : cap ≤ maxLen)
    {b : Nat} {h' : AHeap} (hb : (b = h.length ∧ h' = h ++ [.tok len e]) ∨ (∃ l0 r0 c0, h[b]? = some (.tok l0 e) ∧ S.τ b = some (r0, c0, l0) ∧ l0 < len ∧ h' = h.set b (.tok len e))) :
    Step P S w (S.withTok b w.heap.size cap len X) h' (w.alloc (.cells C e)) := by
  have hne : ∀ i r, S.ρ i = some r → i ≠ b := fun i r hi e => by
    subst e
    obtain ⟨cs, h1⟩ := k.ρdom i r hi
    rcases hb with ⟨rfl, _⟩ | ⟨l0, r0, c0, h2, _⟩
    · simp at h1
    · rw [h2] at h1; cases h1
  have hblt : b ≤ h.length := by
    rcases hb with ⟨rfl, _⟩ | ⟨l0, r0, c0, h2, _⟩
    · exact Nat.le_refl _
    · exact Nat.le_of_lt (List.getElem?_eq_some_iff.1 h2).1
  have hget : ∀ j, j ≠ b → ∀ x, h'[j]? = some x → h[j]? = some x := by
    intro j hj x hx
    rcases hb with ⟨rfl, rfl⟩ | ⟨l0, r0, c0, h2, _, _, rfl⟩
    · have hl := (List.getElem?_eq_some_iff.1 hx).1
      simp at hl
      rwa [List.getElem?_append_left (by omega)] at hx
    · rwa [List.getElem?_set_ne (fun e => hj e.symm)] at hx
  have hget' : ∀ j, j ≠ b → ∀ x, h[j]? = some x → h'[j]? = some x := by
    intro j hj x hx
    rcases hb with ⟨rfl, rfl⟩ | ⟨l0, r0, c0, h2, _, _, rfl⟩
    · rw [List.getElem?_append_left (List.getElem?_eq_some_iff.1 hx).1]; exact hx
    · rw [List.getElem?_set_ne (fun e => hj e.symm)]; exact hx
  have hself : h'[b]? = some (.tok len e) := by
    rcases hb with ⟨rfl, rfl⟩ | ⟨l0, r0, c0, h2, _, _, rfl⟩
    · simp
    · exact List.getElem?_set_self (List.getElem?_eq_some_iff.1 h2).1
  have hx : Ex S w.heap.size (S.withTok b w.heap.size cap len X) := by
    refine ⟨fun a v ha => ?_, fun b r hb => hb, fun t r c l ht => ?_, fun b r hb => .inl hb, fun t r c l ht => ?_, fun a v ha => ?_, rfl⟩
    · simp only [Sh.withTok]
      have := k.ltM ha
      rw [if_neg (by omega)]; exact ha
    · simp only [Sh.withTok]
      by_cases htb : t = b
      · subst htb
        rw [if_pos rfl]
        refine ⟨_, _, _, rfl, .inl ?_⟩
        rcases hb with ⟨rfl, _⟩ | ⟨l0, r0, c0, h2, h3, h4, _⟩
        · have := (k.ltτ ht).1; omega
        · rw [ht] at h3; cases h3; exact h4
      · rw [if_neg htb]; exact ⟨r, c, l, ht, .inr ⟨rfl, rfl, rfl⟩⟩
    · simp only [Sh.withTok] at ht
      split at ht
      · cases ht; exact .inr (Nat.le_refl _)
      · exact .inl ⟨c, l, ht⟩
    · simp only [Sh.withTok] at ha
      split at ha
      · rename_i hc; exact .inr (.inl (by omega))
      · exact .inl ha
  have hold : ∀ r, r < w.heap.size → ∀ o, (S.withTok b w.heap.size cap len X).M ⟨r, o, none⟩ = S.M ⟨r, o, none⟩ := fun r hr o => by
    simp only [Sh.withTok]; rw [if_neg (by simp; omega)]
  refine ⟨hx, ⟨rfl, rfl, rfl, by simp, fun i hi _ _ => alloc_old hi⟩, ?_⟩
  constructor
  · intro a v ha
    simp only [Sh.withTok] at ha
    split at ha
    · rename_i hc
      refine ⟨?_, hc.2⟩
      have : C[a.off]? = some v := by
        rw [← Array.getElem?_toList, hC, List.getElem?_append_left (List.getElem?_eq_some_iff.1 ha).1]; exact ha
      simp only [World.cell?, hc.1, alloc_new, hc.2, Option.isSome_none, Bool.false_eq_true, if_false, this]
    · exact ⟨cell_old (alloc_old (k.ltM ha)) (k.imm a v ha).1, (k.imm a v ha).2⟩
  · intro j cs' hj
    have hjb : j ≠ b := by intro e; subst e; rw [hself] at hj; cases hj
    obtain ⟨r, C', T', h1, h2, h3, h4⟩ := k.box j cs' (hget j hjb _ hj)
    exact ⟨r, C', T', h1, (alloc_old (k.lt h1).2).trans h2, h3.ext hx, fun o => by rw [hold r (k.lt h1).2]; exact h4 o⟩
  · intro j len' e' hj
    by_cases hjb : j = b
    · subst hjb
      rw [hself] at hj; cases hj
      refine ⟨w.heap.size, cap, C, i, by simp [Sh.withTok], alloc_new, hi, h0, hsz, hlc, hcm, fun o ho => ?_⟩
      simp only [Sh.withTok, and_self, if_true]
      exact List.getElem?_eq_none (by omega)
    · obtain ⟨r, cap', C', i', h1, h2, h3, h4, h5, h6, h7, h8⟩ := k.tok j len' e' (hget j hjb _ hj)
      refine ⟨r, cap', C', i', ?_, (alloc_old (k.ltτ h1).2).trans h2, h3, h4, h5, h6, h7, fun o ho => by rw [hold r (k.ltτ h1).2]; exact h8 o ho⟩
      simp only [Sh.withTok]; rw [if_neg hjb]; exact h1
  · intro j r hj
    obtain ⟨cs, h1⟩ := k.ρdom j r hj
    exact ⟨cs, hget' j (hne j r hj) _ h1⟩
  · intro j x hj
    simp only [Sh.withTok] at hj
    split at hj
    · rename_i hjb; subst hjb; cases hj; exact ⟨e, hself⟩
    · rename_i hjb
      obtain ⟨e', h1⟩ := k.τdom j x hj
      exact ⟨e', hget' j hjb _ h1⟩
  · exact k.injρ
  · intro j j' r c c' l l' hj hj'
    simp only [Sh.withTok] at hj hj'
    split at hj
    · cases hj
      split at hj'
      · omega
      · have := (k.ltτ hj').2; omega
    · split at hj'
      · cases hj'; have := (k.ltτ hj).2; omega
      · exact k.injτ j j' r c c' l l' hj hj'
  · intro j j' r c l hj hj'
    simp only [Sh.withTok] at hj'
    split at hj'
    · cases hj'; have := (k.lt hj).2; omega
    · exact k.apart j j' r c l hj hj'
  · exact frz_step k hx ⟨rfl, rfl, rfl, by simp, fun i hi _ _ => alloc_old hi⟩
  · exact laid_step k hx

/-- Room that the token b owns, filled. -/
def Sh.moreTok (S : Sh) (b r cap o1 len : Nat) (Y : List Value) : Sh :=
  { S with M := fun a => if a.block = r ∧ a.spot = none ∧ o1 ≤ a.off ∧ a.off < o1 + Y.length then Y[a.off - o1]? else S.M a, τ := fun i => if i = b then some (r, cap, len) else S.τ i }

theorem moreTok [Tabs P] (k : WR P S h w) {C : Array Value} {e : TypeId} {i : TypeInfo} {Y : List Value} {b r cap len m : Nat} (hb : h[b]? = some (.tok len e)) (hτ : S.τ b = some (r, cap, len))
    (hw : w.heap[r]? = some (.cells C e (0, 0))) (hi : P.info? e = some i) (hsz : C.size = cap * i.size) (hY : Y.length = m * i.size) (hm : 0 < m) (hlc : len + m ≤ cap) :
    Step P S w (S.moreTok b r cap (len * i.size) (len + m) Y) (h.set b (.tok (len + m) e))
      (w.setRow r (C.toList.take (len * i.size) ++ Y ++ C.toList.drop (len * i.size + Y.length)).toArray) := by
  have hblt := (List.getElem?_eq_some_iff.1 hb).1
  obtain ⟨r0, cap0, C0, i0, t1, t2, t3, t4, t5, t6, t7, t8⟩ := k.tok b len e hb
  rw [hτ] at t1; cases t1
  rw [hi] at t3; cases t3
  have hfit : len * i.size + Y.length ≤ C.size := by rw [hsz, hY, ← Nat.add_mul]; exact Nat.mul_le_mul_right _ hlc
  have hclen : (C.toList.take (len * i.size) ++ Y ++ C.toList.drop (len * i.size + Y.length)).length = C.size := by simp; omega
  have hnew := setRow_heap w r C (C.toList.take (len * i.size) ++ Y ++ C.toList.drop (len * i.size + Y.length)).toArray e (0, 0) hw
  have hoth : ∀ j, j ≠ r → (w.setRow r (C.toList.take (len * i.size) ++ Y ++ C.toList.drop (len * i.size + Y.length)).toArray).heap[j]? = w.heap[j]? := fun j hj => setRow_other w r j _ hj
  generalize hCn : (C.toList.take (len * i.size) ++ Y ++ C.toList.drop (len * i.size + Y.length)) = Cn at *
  generalize hwn : w.setRow r Cn.toArray = wn at *
  have hfr : wn.os = w.os ∧ wn.tape = w.tape ∧ wn.output = w.output ∧ wn.heap.size = w.heap.size := by subst hwn; exact ⟨rfl, rfl, rfl, by simp [World.setRow]⟩
  have hfree : ∀ o v, S.M ⟨r, o, none⟩ = some v → o < len * i.size := fun o v hv => by
    by_cases ho : len * i.size ≤ o
    · rw [t8 o ho] at hv; cases hv
    · omega
  have hx : Ex S w.heap.size (S.moreTok b r cap (len * i.size) (len + m) Y) := by
    refine ⟨fun a v ha => ?_, fun b r hb => hb, fun t r' c l ht => ?_, fun b r hb => .inl hb, fun t r' c l ht => ?_, fun a v ha => ?_, rfl⟩
    · simp only [Sh.moreTok]
      rw [if_neg]
      · exact ha
      · rintro ⟨h1, h2, h3, _⟩
        have : a = ⟨r, a.off, none⟩ := by cases a; simp_all
        rw [this] at ha
        have := hfree _ _ ha
        omega
    · simp only [Sh.moreTok]
      by_cases htb : t = b
      · subst htb; rw [hτ] at ht; cases ht
        exact ⟨r, cap, len + m, by simp, .inl (by omega)⟩
      · exact ⟨r', c, l, by rw [if_neg htb]; exact ht, .inr ⟨rfl, rfl, rfl⟩⟩
    · simp only [Sh.moreTok] at ht
      split at ht
      · rename_i htb; subst htb; cases ht; exact .inl ⟨cap, len, hτ⟩
      · exact .inl ⟨c, l, ht⟩
    · simp only [Sh.moreTok] at ha
      split at ha
      · rename_i hc; exact .inr (.inr ⟨b, cap, len, by rw [hc.1]; exact hτ⟩)
      · exact .inl ha
  have hρne : ∀ j r', S.ρ j = some r' → r' ≠ r := fun j r' hj e => by subst e; exact k.apart j b r' cap len hj hτ
  have hτne : ∀ j r' c l, S.τ j = some (r', c, l) → j ≠ b → r' ≠ r := fun j r' c l hj hjb e => by subst e; exact hjb (k.injτ j b r' c cap l len hj hτ)
  have hold : ∀ r', r' ≠ r → ∀ o, (S.moreTok b r cap (len * i.size) (len + m) Y).M ⟨r', o, none⟩ = S.M ⟨r', o, none⟩ := fun r' hr o => by
    simp only [Sh.moreTok]; rw [if_neg (by simp [hr])]
  refine ⟨hx, ⟨hfr.1, hfr.2.1, hfr.2.2.1, by omega, fun j hj _ h2 => hoth j (fun e => h2 b cap len (e ▸ hτ))⟩, ?_⟩
  constructor
  · intro a v ha
    simp only [Sh.moreTok] at ha
    split at ha
    · rename_i hc
      refine ⟨?_, hc.2.1⟩
      have : Cn[a.off]? = some v := by
        rw [← hCn, List.append_assoc, List.getElem?_append_right (by rw [List.length_take, Array.length_toList]; omega)]
        have e1 : (C.toList.take (len * i.size)).length = len * i.size := by rw [List.length_take, Array.length_toList]; omega
        rw [e1, List.getElem?_append_left (List.getElem?_eq_some_iff.1 ha).1]
        exact ha
      simp only [World.cell?, hc.1, hnew, hc.2.1, Option.isSome_none, Bool.false_eq_true, if_false, List.getElem?_toArray, this]
    · have := k.imm a v ha
      refine ⟨?_, this.2⟩
      by_cases hr : a.block = r
      · have ha' : a = ⟨r, a.off, none⟩ := by have := this.2; cases a; simp_all
        have hlt := hfree a.off v (by rw [← ha']; exact ha)
        have hc := this.1
        simp only [World.cell?, hr, hw, hnew, this.2, Option.isSome_none, Bool.false_eq_true, if_false, List.getElem?_toArray] at hc ⊢
        rw [← hCn, List.append_assoc, List.getElem?_append_left (by rw [List.length_take, Array.length_toList]; omega), List.getElem?_take_of_lt hlt, Array.getElem?_toList]
        exact hc
      · exact cell_old (hoth _ hr) this.1
  · intro j cs' hj
    have hjb : j ≠ b := by intro e; subst e; rw [List.getElem?_set_self hblt] at hj; cases hj
    rw [List.getElem?_set_ne (fun e => hjb e.symm)] at hj
    obtain ⟨r', C', T', h1, h2, h3, h4⟩ := k.box j cs' hj
    exact ⟨r', C', T', h1, (hoth r' (hρne j r' h1)).trans h2, h3.ext hx, fun o => by rw [hold r' (hρne j r' h1)]; exact h4 o⟩
  · intro j len' e' hj
    by_cases hjb : j = b
    · subst hjb
      rw [List.getElem?_set_self hblt] at hj; cases hj
      refine ⟨r, cap, Cn.toArray, i, by simp [Sh.moreTok], hnew, hi, t4, by simp [hclen, hsz], hlc, t7, fun o ho => ?_⟩
      simp only [Sh.moreTok]
      rw [if_neg]
      · exact t8 o (by rw [Nat.add_mul] at ho; omega)
      · rw [Nat.add_mul] at ho; simp; omega
    · rw [List.getElem?_set_ne (fun e => hjb e.symm)] at hj
      obtain ⟨r', cap', C', i', h1, h2, h3, h4, h5, h6, h7, h8⟩ := k.tok j len' e' hj
      have hr' := hτne j r' cap' len' h1 hjb
      refine ⟨r', cap', C', i', ?_, (hoth r' hr').trans h2, h3, h4, h5, h6, h7, fun o ho => by rw [hold r' hr']; exact h8 o ho⟩
      simp only [Sh.moreTok]; rw [if_neg hjb]; exact h1
  · intro j r' hj
    obtain ⟨cs, h1⟩ := k.ρdom j r' hj
    refine ⟨cs, ?_⟩
    rw [List.getElem?_set_ne]
    · exact h1
    · intro e; subst e; rw [hb] at h1; cases h1
  · intro j x hj
    simp only [Sh.moreTok] at hj
    split at hj
    · rename_i hjb; subst hjb; cases hj; exact ⟨e, List.getElem?_set_self hblt⟩
    · rename_i hjb
      obtain ⟨e', h1⟩ := k.τdom j x hj
      exact ⟨e', by rw [List.getElem?_set_ne (fun e => hjb e.symm)]; exact h1⟩
  · exact k.injρ
  · intro j j' r' c c' l l' hj hj'
    simp only [Sh.moreTok] at hj hj'
    split at hj
    · rename_i hjb
      cases hj
      split at hj'
      · omega
      · rename_i hjb'; exact absurd rfl (hτne j' _ _ _ hj' hjb')
    · rename_i hjb
      split at hj'
      · cases hj'; exact absurd rfl (hτne j _ _ _ hj hjb)
      · exact k.injτ j j' r' c c' l l' hj hj'
  · intro j j' r' c l hj hj'
    simp only [Sh.moreTok] at hj'
    split at hj'
    · cases hj'; exact absurd rfl (hρne j _ hj)
    · exact k.apart j j' r' c l hj hj'
  · exact frz_step k hx ⟨hfr.1, hfr.2.1, hfr.2.2.1, by omega, fun j hj _ h2 => hoth j (fun e => h2 b cap len (e ▸ hτ))⟩
  · exact laid_step k hx
end Go.Ab
