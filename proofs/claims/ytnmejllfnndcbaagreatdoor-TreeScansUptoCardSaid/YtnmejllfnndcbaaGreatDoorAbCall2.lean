/- Calls see the blocks that their arguments reach, renumbered: soundness. -/
import Derived.Test.YtnmejllfnndcbaaGreatDoorAbOp8
set_option linter.unusedSimpArgs false
set_option linter.unusedVariables false
namespace Go.Ab
variable {P : Program} {call : Call}

def CallPost (P : Program) [Tabs P] (S : Sh) (h : AHeap) (w : World) (r : CR) (e : Ending) (w' : World) : Prop :=
  match r with
  | .ret u f => ∃ v S', e = .returned v ∧ Step P S w S' (f.of h) w' ∧ VR S' u v
  | .pan u f => ∃ v S', e = .panicked [{ v, recovered := false }] ∧ Step P S w S' (f.of h) w' ∧ VR S' u v

def KeepH (h h' : AHeap) (d : List Nat) : Prop := h.length ≤ h'.length ∧ ∀ b, b < h.length → b ∉ d → h'[b]? = h[b]?
theorem KeepH.refl (h : AHeap) (d : List Nat) : KeepH h h d := ⟨Nat.le_refl _, fun _ _ _ => rfl⟩
def KeepF (h : AHeap) (f : Eff) : Prop := KeepH h (f.of h) f.dirt

/-- What answers for calls tells the truth. -/
def CallOk (P : Program) [Tabs P] (call : Call) : Prop :=
  ∀ (f : FuncId) (args : List AVal) (h : AHeap) (r : CR), call f args h = some r →
    (∃ fn, P.funcs[f]? = some fn ∧ fn.body.isSome = true ∧ (fn.name == "runtime.NumGoroutine") = false) ∧
    ∀ (S : Sh) (w : World) (vs : Array Value), WR P S h w → VRl S args vs.toList → Calls P f vs w (CallPost P S h w r)
def CR.eff : CR → Eff
  | .ret _ e => e
  | .pan _ e => e
def KeepCall (call : Call) : Prop := ∀ f args h r, call f args h = some r → KeepF h r.eff

theorem calls_mono {f : FuncId} {args : Array Value} {w : World} {R R' : Ending → World → Prop} (hc : Calls P f args w R) (hr : ∀ e w', R e w' → R' e w') : Calls P f args w R' :=
  fun cs => let ⟨e, w', fr, r, s⟩ := hc cs; ⟨e, w', fr, hr _ _ r, s⟩

/-- The shape that the callee sees. -/
def Sh.sub (S : Sh) (idx : List Nat) : Sh := { M := S.M, ρ := fun i => (idx[i]?).bind S.ρ, τ := fun i => (idx[i]?).bind S.τ, F := S.F }
/-- The shape behind the call. -/
def Sh.back (S S1 : Sh) (n : Nat) (idx : List Nat) : Sh :=
  { M := S1.M, ρ := fun b => if b < n then S.ρ b else S1.ρ (idx.length + (b - n)), τ := fun b => if b < n then (if b ∈ idx then S1.τ (idx.idxOf b) else S.τ b) else S1.τ (idx.length + (b - n)), F := S.F }

structure SubOk (h : AHeap) (idx : List Nat) : Prop where
  nd : idx.Nodup
  blk : ∀ b ∈ idx, ∃ x, h[b]? = some x ∧ ∀ c ∈ blkRefs x, c ∈ idx

theorem subOk_ok {h : AHeap} {idx : List Nat} {args : List AVal} (hn : idx.Nodup) (e : subOk h idx args = true) : SubOk h idx ∧ ∀ b ∈ refsL args, b ∈ idx := by
  unfold subOk at e
  simp only [Bool.and_eq_true, List.all_eq_true, List.contains_eq_mem, decide_eq_true_eq] at e
  refine ⟨⟨hn, fun b hb => ?_⟩, e.1⟩
  have := e.2 b hb
  cases hx : h[b]? with
  | none => simp [hx] at this
  | some x => simp only [hx, List.all_eq_true, decide_eq_true_eq] at this; exact ⟨x, rfl, this⟩

theorem subH_get {h : AHeap} {idx : List Nat} {i b : Nat} {x : Blk} (hi : idx[i]? = some b) (hx : h[b]? = some x) : (subH h idx)[i]? = some (renB (fun y => idx.idxOf y) x) := by
  unfold subH
  rw [List.getElem?_map, hi]
  simp [List.getD_eq_getElem?_getD, hx]
theorem subH_length (h : AHeap) (idx : List Nat) : (subH h idx).length = idx.length := by simp [subH]
theorem subH_inv {h : AHeap} {idx : List Nat} (ok : SubOk h idx) {i : Nat} {y : Blk} (hy : (subH h idx)[i]? = some y) : ∃ b x, idx[i]? = some b ∧ h[b]? = some x ∧ (∀ c ∈ blkRefs x, c ∈ idx) ∧ y = renB (fun z => idx.idxOf z) x := by
  have hi : i < idx.length := by have := (List.getElem?_eq_some_iff.1 hy).1; rwa [subH_length] at this
  obtain ⟨x, hx, hr⟩ := ok.blk idx[i] (List.getElem_mem hi)
  have := subH_get (List.getElem?_eq_getElem hi) hx
  rw [hy] at this
  exact ⟨idx[i], x, List.getElem?_eq_getElem hi, hx, hr, Option.some.inj this⟩

theorem sub_ref {S : Sh} {idx : List Nat} {b : Nat} (hb : b ∈ idx) : (∀ r, S.ρ b = some r → (S.sub idx).ρ (idx.idxOf b) = some r) ∧ ∀ x, S.τ b = some x → (S.sub idx).τ (idx.idxOf b) = some x := by
  have h1 := idxOf_get hb
  exact ⟨fun r hr => by simp only [Sh.sub, h1]; exact hr, fun x hx => by simp only [Sh.sub, h1]; exact hx⟩

theorem sub_wr [Tabs P] {S : Sh} {h : AHeap} {w : World} (k : WR P S h w) {idx : List Nat} (ok : SubOk h idx) : WR P (S.sub idx) (subH h idx) w := by
  have gρ : ∀ i r, (S.sub idx).ρ i = some r → ∃ b, idx[i]? = some b ∧ S.ρ b = some r := by
    intro i r hi
    simp only [Sh.sub] at hi
    cases hb : idx[i]? with
    | none => simp [hb] at hi
    | some b => simp [hb] at hi; exact ⟨b, rfl, hi⟩
  have gτ : ∀ i x, (S.sub idx).τ i = some x → ∃ b, idx[i]? = some b ∧ S.τ b = some x := by
    intro i r hi
    simp only [Sh.sub] at hi
    cases hb : idx[i]? with
    | none => simp [hb] at hi
    | some b => simp [hb] at hi; exact ⟨b, rfl, hi⟩
  constructor
  · exact k.imm
  · intro i cs hi
    obtain ⟨b, x, h1, h2, h3, h4⟩ := subH_inv ok hi
    cases x with
    | tok l e => simp [renB] at h4
    | box cs0 =>
      simp only [renB, Blk.box.injEq] at h4
      subst h4
      obtain ⟨r, C, T, g1, g2, g3, g4⟩ := k.box b cs0 h2
      exact ⟨r, C, T, by simp only [Sh.sub, h1]; exact g1, g2, g3.ren (S := S) (S' := S.sub idx) _ (fun _ _ h => h) (fun c hc => sub_ref (h3 c hc)), g4⟩
  · intro i l e hi
    obtain ⟨b, x, h1, h2, h3, h4⟩ := subH_inv ok hi
    cases x with
    | box cs0 => simp [renB] at h4
    | tok l0 e0 =>
      simp only [renB, Blk.tok.injEq] at h4
      obtain ⟨rfl, rfl⟩ := h4
      obtain ⟨r, cap, C, q, g1, g2⟩ := k.tok b l e h2
      exact ⟨r, cap, C, q, by simp only [Sh.sub, h1]; exact g1, g2⟩
  · intro i r hi
    obtain ⟨b, h1, h2⟩ := gρ i r hi
    obtain ⟨cs, h3⟩ := k.ρdom b r h2
    exact ⟨_, subH_get h1 h3⟩
  · intro i x hi
    obtain ⟨b, h1, h2⟩ := gτ i x hi
    obtain ⟨e, h3⟩ := k.τdom b x h2
    exact ⟨e, subH_get h1 h3⟩
  · intro i i' r hi hi'
    obtain ⟨b, h1, h2⟩ := gρ i r hi
    obtain ⟨b', h1', h2'⟩ := gρ i' r hi'
    have := k.injρ b b' r h2 h2'
    subst this
    exact (get_idxOf ok.nd h1).symm.trans (get_idxOf ok.nd h1')
  · intro i i' r c c' l l' hi hi'
    obtain ⟨b, h1, h2⟩ := gτ i _ hi
    obtain ⟨b', h1', h2'⟩ := gτ i' _ hi'
    have := k.injτ b b' r c c' l l' h2 h2'
    subst this
    exact (get_idxOf ok.nd h1).symm.trans (get_idxOf ok.nd h1')
  · intro i i' r c l hi hi'
    obtain ⟨b, h1, h2⟩ := gρ i _ hi
    obtain ⟨b', h1', h2'⟩ := gτ i' _ hi'
    exact k.apart b b' r c l h2 h2'
  · intro x o hx
    obtain ⟨h1, h2, h3⟩ := k.frz x o hx
    refine ⟨h1, fun i hi => ?_, fun i c l hi => ?_⟩
    · obtain ⟨b, _, g⟩ := gρ i x hi; exact h2 b g
    · obtain ⟨b, _, g⟩ := gτ i _ hi; exact h3 b c l g
  · exact k.laid

/-- The heap behind the call, place by place. -/
structure BackH (h : AHeap) (idx : List Nat) (h1 h2 : AHeap) : Prop where
  len : h.length ≤ h2.length
  inn : ∀ i b : Nat, idx[i]? = some b → h2[b]? = (h1[i]?).map (renB (backN h.length idx))
  out : ∀ b, b < h.length → b ∉ idx → h2[b]? = h[b]?
  new : ∀ b, h.length ≤ b → h2[b]? = (h1[idx.length + (b - h.length)]?).map (renB (backN h.length idx))

theorem backE_ok {h : AHeap} {idx : List Nat} (ok : SubOk h idx) {f : Eff} (hk : KeepF (subH h idx) f) : BackH h idx (f.of (subH h idx)) ((backE h idx f).of h) := by
  have hlt : ∀ (i b : Nat), idx[i]? = some b → b < h.length := fun i b hb => by
    obtain ⟨x, hx, _⟩ := ok.blk b (List.mem_of_getElem? hb)
    exact (List.getElem?_eq_some_iff.1 hx).1
  have hold : ∀ (i b : Nat), idx[i]? = some b → h[b]? = ((subH h idx)[i]?).map (renB (backN h.length idx)) := by
    intro i b hb
    obtain ⟨x, hx, hr⟩ := ok.blk b (List.mem_of_getElem? hb)
    rw [subH_get hb hx, hx]
    simp only [Option.map_some, renB_back hr]
  cases f with
  | same =>
    refine ⟨Nat.le_refl _, hold, fun _ _ _ => rfl, fun b hb => ?_⟩
    simp only [backE, Eff.of]
    rw [List.getElem?_eq_none hb, List.getElem?_eq_none (by rw [subH_length]; omega)]
    rfl
  | heap h' d =>
    simp only [backE, Eff.of]
    have hpl := putBack_length idx h.length h' d h
    have hl' : idx.length ≤ h'.length := by have := hk.1; rw [subH_length] at this; exact this
    refine ⟨by rw [List.length_append, hpl]; omega, fun i b hb => ?_, fun b hb hn => ?_, fun b hb => ?_⟩
    · rw [List.getElem?_append_left (by rw [hpl]; exact hlt i b hb)]
      have hi := (List.getElem?_eq_some_iff.1 hb).1
      by_cases hd : i ∈ d
      · rw [putBack_same idx ok.nd h.length h' hb (List.getElem?_eq_getElem (by omega)) d h hd (hlt i b hb), List.getElem?_eq_getElem (by omega)]
        rfl
      · rw [putBack_other]
        · rw [hold i b hb, ← hk.2 i (by rw [subH_length]; exact hi) hd]
          rfl
        · intro j hj e
          have := (get_idxOf ok.nd e).symm.trans (get_idxOf ok.nd hb)
          subst this; exact hd hj
    · rw [List.getElem?_append_left (by rw [hpl]; exact hb), putBack_other]
      intro j _ e
      exact hn (List.mem_of_getElem? e)
    · rw [List.getElem?_append_right (by rw [hpl]; exact hb), hpl, List.getElem?_map, List.getElem?_drop]

theorem back_wr [Tabs P] {S S1 : Sh} {h h1 h2 : AHeap} {w w' : World} {idx : List Nat} (k : WR P S h w) (ok : SubOk h idx) (st : Step P (S.sub idx) w S1 h1 w') (bk : BackH h idx h1 h2) :
    Step P S w (S.back S1 h.length idx) h2 w' ∧ (∀ {a : AVal} {v : Value}, VR S1 a v → VR (S.back S1 h.length idx) (ren (backN h.length idx) a) v) := by
  have hlt : ∀ (i b : Nat), idx[i]? = some b → b < h.length := fun i b hb => by
    obtain ⟨x, hx, _⟩ := ok.blk b (List.mem_of_getElem? hb)
    exact (List.getElem?_eq_some_iff.1 hx).1
  have k1 := st.wr
  -- what the callee's shape says of a block that came in
  have inρ : ∀ i b r, idx[i]? = some b → (S1.ρ i = some r ↔ S.ρ b = some r) := by
    intro i b r hb
    have hsub : (S.sub idx).ρ i = S.ρ b := by simp only [Sh.sub, hb]; rfl
    have hsubτ : (S.sub idx).τ i = S.τ b := by simp only [Sh.sub, hb]; rfl
    constructor
    · intro h3
      obtain ⟨x, hx, _⟩ := ok.blk b (List.mem_of_getElem? hb)
      cases x with
      | box cs =>
        obtain ⟨r0, _, _, g1, _⟩ := k.box b cs hx
        have := st.ext.ρ i r0 (by rw [hsub]; exact g1)
        rw [h3] at this; cases this; exact g1
      | tok l e =>
        exfalso
        obtain ⟨r0, c0, _, _, g1, _⟩ := k.tok b l e hx
        obtain ⟨r', c', l', g2, _⟩ := st.ext.τ i r0 c0 l (by rw [hsubτ]; exact g1)
        obtain ⟨cs, g3⟩ := k1.ρdom i r h3
        obtain ⟨e', g4⟩ := k1.τdom i _ g2
        rw [g3] at g4; cases g4
    · intro h3; exact st.ext.ρ i r (by rw [hsub]; exact h3)
  have bρ : ∀ b r, (S.back S1 h.length idx).ρ b = some r → (b < h.length ∧ S.ρ b = some r) ∨ (h.length ≤ b ∧ S1.ρ (idx.length + (b - h.length)) = some r) := by
    intro b r hb
    simp only [Sh.back] at hb
    split at hb
    · exact .inl ⟨‹_›, hb⟩
    · exact .inr ⟨by omega, hb⟩
  have bτ : ∀ b x, (S.back S1 h.length idx).τ b = some x → (b < h.length ∧ b ∈ idx ∧ S1.τ (idx.idxOf b) = some x) ∨ (b < h.length ∧ b ∉ idx ∧ S.τ b = some x) ∨ (h.length ≤ b ∧ S1.τ (idx.length + (b - h.length)) = some x) := by
    intro b x hb
    simp only [Sh.back] at hb
    split at hb
    · split at hb
      · exact .inl ⟨‹_›, ‹_›, hb⟩
      · exact .inr (.inl ⟨‹_›, ‹_›, hb⟩)
    · exact .inr (.inr ⟨by omega, hb⟩)
  have sub0 : ∀ q, (S.sub idx).ρ (idx.length + q) = none ∧ (S.sub idx).τ (idx.length + q) = none := fun q => by
    simp [Sh.sub]
  have hM2 : ∀ a, (S.back S1 h.length idx).M a = S1.M a := fun _ => rfl
  -- the shapes
  have hext : Ex S w.heap.size (S.back S1 h.length idx) := by
    refine ⟨st.ext.M, fun b r hb => ?_, fun t r c l ht => ?_, fun b r hb => ?_, fun t r c l ht => ?_, fun a v ha => ?_, rfl⟩
    · simp only [Sh.back]; rw [if_pos (k.lt hb).1]; exact hb
    · have htl := (k.ltτ ht).1
      by_cases hm : t ∈ idx
      · have h3 := (sub_ref (S := S) hm).2 _ ht
        obtain ⟨r', c', l', g1, g2⟩ := st.ext.τ _ _ _ _ h3
        exact ⟨r', c', l', by simp only [Sh.back]; rw [if_pos htl, if_pos hm]; exact g1, g2⟩
      · exact ⟨r, c, l, by simp only [Sh.back]; rw [if_pos htl, if_neg hm]; exact ht, .inr ⟨rfl, rfl, rfl⟩⟩
    · rcases bρ b r hb with ⟨_, h3⟩ | ⟨_, h3⟩
      · exact .inl h3
      · rcases st.ext.newρ _ _ h3 with h4 | h4
        · rw [(sub0 _).1] at h4; cases h4
        · exact .inr h4
    · rcases bτ t _ ht with ⟨_, hm, h3⟩ | ⟨_, _, h3⟩ | ⟨_, h3⟩
      · rcases st.ext.newτ _ _ _ _ h3 with ⟨c0, l0, h4⟩ | h4
        · refine .inl ⟨c0, l0, ?_⟩
          simp only [Sh.sub, idxOf_get hm] at h4
          exact h4
        · exact .inr h4
      · exact .inl ⟨c, l, h3⟩
      · rcases st.ext.newτ _ _ _ _ h3 with ⟨c0, l0, h4⟩ | h4
        · rw [(sub0 _).2] at h4; cases h4
        · exact .inr h4
    · rcases st.ext.newM a v ha with h3 | h3 | ⟨t, c, l, h3⟩
      · exact .inl h3
      · exact .inr (.inl h3)
      · simp only [Sh.sub] at h3
        cases hb : idx[t]? with
        | none => simp [hb] at h3
        | some b => simp [hb] at h3; exact .inr (.inr ⟨b, c, l, h3⟩)
  -- back
  have back : ∀ {a : AVal} {v : Value}, VR S1 a v → VR (S.back S1 h.length idx) (ren (backN h.length idx) a) v := by
    intro a v hv
    refine hv.ren (S := S1) (S' := S.back S1 h.length idx) _ (fun _ _ h => h) (fun i _ => ⟨fun r hr => ?_, fun x hx => ?_⟩)
    · simp only [backN]
      split
      · rename_i hi
        have hb := List.getElem?_eq_getElem hi
        rw [List.getD_eq_getElem?_getD, hb, Option.getD_some]
        simp only [Sh.back]
        rw [if_pos (hlt i _ hb)]
        exact (inρ i _ r hb).1 hr
      · simp only [Sh.back]
        rw [if_neg (by omega), show idx.length + (h.length + (i - idx.length) - h.length) = i by omega]
        exact hr
    · simp only [backN]
      split
      · rename_i hi
        have hb := List.getElem?_eq_getElem hi
        rw [List.getD_eq_getElem?_getD, hb, Option.getD_some]
        simp only [Sh.back]
        rw [if_pos (hlt i _ hb), if_pos (List.getElem_mem hi), get_idxOf ok.nd hb]
        exact hx
      · simp only [Sh.back]
        rw [if_neg (by omega), show idx.length + (h.length + (i - idx.length) - h.length) = i by omega]
        exact hx
  have backl : ∀ {l : List AVal} {x : List Value}, VRl S1 l x → VRl (S.back S1 h.length idx) (renL (backN h.length idx) l) x := by
    intro l x hl
    refine ⟨by rw [renL_length]; exact hl.1, fun j u v hu hv => ?_⟩
    rw [renL_get] at hu
    cases ha : l[j]? with
    | none => simp [ha] at hu
    | some a => simp [ha] at hu; subst hu; exact back (hl.2 j a v ha hv)
  -- a block that the callee didn't see
  have keepB : ∀ b r, b ∉ idx → (S.ρ b = some r ∨ ∃ c l, S.τ b = some (r, c, l)) → w'.heap[r]? = w.heap[r]? := by
    intro b r hn hb
    have hr : r < w.heap.size := by
      rcases hb with hb | ⟨c, l, hb⟩
      · exact (k.lt hb).2
      · exact (k.ltτ hb).2
    refine st.fr.block r hr (fun i hi => ?_) (fun i c l hi => ?_)
    · simp only [Sh.sub] at hi
      cases hq : idx[i]? with
      | none => simp [hq] at hi
      | some q =>
        simp [hq] at hi
        rcases hb with hb | ⟨c, l, hb⟩
        · have := k.injρ q b r hi hb; subst this; exact hn (List.mem_of_getElem? hq)
        · exact k.apart q b r c l hi hb
    · simp only [Sh.sub] at hi
      cases hq : idx[i]? with
      | none => simp [hq] at hi
      | some q =>
        simp [hq] at hi
        rcases hb with hb | ⟨c', l', hb⟩
        · exact k.apart b q r c l hb hi
        · have := k.injτ q b r c c' l l' hi hb; subst this; exact hn (List.mem_of_getElem? hq)
  have keepM : ∀ b r o, b ∉ idx → (S.ρ b = some r ∨ ∃ c l, S.τ b = some (r, c, l)) → S.M ⟨r, o, none⟩ = none → S1.M ⟨r, o, none⟩ = none := by
    intro b r o hn hb hM
    have hr : r < w.heap.size := by
      rcases hb with hb | ⟨c, l, hb⟩
      · exact (k.lt hb).2
      · exact (k.ltτ hb).2
    cases hv : S1.M ⟨r, o, none⟩ with
    | none => rfl
    | some v =>
      exfalso
      rcases st.ext.newM _ v hv with h3 | h3 | ⟨t, c, l, h3⟩
      · have h4 : S.M ⟨r, o, none⟩ = some v := h3
        rw [hM] at h4; cases h4
      · simp at h3; omega
      · simp only [Sh.sub] at h3
        cases hq : idx[t]? with
        | none => simp [hq] at h3
        | some q =>
          simp [hq] at h3
          rcases hb with hb | ⟨c', l', hb⟩
          · exact k.apart b q r c l hb h3
          · have := k.injτ q b r c c' l l' h3 hb; subst this; exact hn (List.mem_of_getElem? hq)
  have hfr : Fr S w w' := by
    refine ⟨st.fr.os, st.fr.tape, st.fr.output, st.fr.size, fun q hq g1 g2 => st.fr.block q hq (fun i hi => ?_) (fun i c l hi => ?_)⟩
    · simp only [Sh.sub] at hi
      cases hb : idx[i]? with
      | none => simp [hb] at hi
      | some b => simp [hb] at hi; exact g1 b hi
    · simp only [Sh.sub] at hi
      cases hb : idx[i]? with
      | none => simp [hb] at hi
      | some b => simp [hb] at hi; exact g2 b c l hi
  refine ⟨⟨hext, hfr, ?_⟩, back⟩
  constructor
  · exact k1.imm
  · intro b cs hb
    by_cases hbl : b < h.length
    · by_cases hm : b ∈ idx
      · have hi := idxOf_get hm
        rw [bk.inn _ _ hi] at hb
        cases hx : h1[idx.idxOf b]? with
        | none => simp [hx] at hb
        | some x =>
          simp only [hx, Option.map_some, Option.some.injEq] at hb
          cases x with
          | tok l e => simp [renB] at hb
          | box cs1 =>
            simp only [renB, Blk.box.injEq] at hb
            subst hb
            obtain ⟨r, C, T, g1, g2, g3, g4⟩ := k1.box _ cs1 hx
            exact ⟨r, C, T, by simp only [Sh.back]; rw [if_pos hbl]; exact (inρ _ _ r hi).1 g1, g2, backl g3, g4⟩
      · rw [bk.out b hbl hm] at hb
        obtain ⟨r, C, T, g1, g2, g3, g4⟩ := k.box b cs hb
        exact ⟨r, C, T, by simp only [Sh.back]; rw [if_pos hbl]; exact g1, (keepB b r hm (.inl g1)).trans g2, g3.ext hext, fun o => keepM b r o hm (.inl g1) (g4 o)⟩
    · rw [bk.new b (by omega)] at hb
      cases hx : h1[idx.length + (b - h.length)]? with
      | none => simp [hx] at hb
      | some x =>
        simp only [hx, Option.map_some, Option.some.injEq] at hb
        cases x with
        | tok l e => simp [renB] at hb
        | box cs1 =>
          simp only [renB, Blk.box.injEq] at hb
          subst hb
          obtain ⟨r, C, T, g1, g2, g3, g4⟩ := k1.box _ cs1 hx
          exact ⟨r, C, T, by simp only [Sh.back]; rw [if_neg hbl]; exact g1, g2, backl g3, g4⟩
  · intro b len e hb
    by_cases hbl : b < h.length
    · by_cases hm : b ∈ idx
      · have hi := idxOf_get hm
        rw [bk.inn _ _ hi] at hb
        cases hx : h1[idx.idxOf b]? with
        | none => simp [hx] at hb
        | some x =>
          simp only [hx, Option.map_some, Option.some.injEq] at hb
          cases x with
          | box cs1 => simp [renB] at hb
          | tok l0 e0 =>
            simp only [renB, Blk.tok.injEq] at hb
            obtain ⟨rfl, rfl⟩ := hb
            obtain ⟨r, cap, C, q, g1, g2⟩ := k1.tok _ _ _ hx
            exact ⟨r, cap, C, q, by simp only [Sh.back]; rw [if_pos hbl, if_pos hm]; exact g1, g2⟩
      · rw [bk.out b hbl hm] at hb
        obtain ⟨r, cap, C, q, g1, g2, g3, g4, g5, g6, g7, g8⟩ := k.tok b len e hb
        exact ⟨r, cap, C, q, by simp only [Sh.back]; rw [if_pos hbl, if_neg hm]; exact g1, (keepB b r hm (.inr ⟨cap, len, g1⟩)).trans g2, g3, g4, g5, g6, g7, fun o ho => keepM b r o hm (.inr ⟨cap, len, g1⟩) (g8 o ho)⟩
    · rw [bk.new b (by omega)] at hb
      cases hx : h1[idx.length + (b - h.length)]? with
      | none => simp [hx] at hb
      | some x =>
        simp only [hx, Option.map_some, Option.some.injEq] at hb
        cases x with
        | box cs1 => simp [renB] at hb
        | tok l0 e0 =>
          simp only [renB, Blk.tok.injEq] at hb
          obtain ⟨rfl, rfl⟩ := hb
          obtain ⟨r, cap, C, q, g1, g2⟩ := k1.tok _ _ _ hx
          exact ⟨r, cap, C, q, by simp only [Sh.back]; rw [if_neg hbl]; exact g1, g2⟩
  · intro b r hb
    rcases bρ b r hb with ⟨hbl, h3⟩ | ⟨hbl, h3⟩
    · by_cases hm : b ∈ idx
      · have hi := idxOf_get hm
        obtain ⟨cs, h4⟩ := k1.ρdom _ r ((inρ _ _ r hi).2 h3)
        exact ⟨_, by rw [bk.inn _ _ hi, h4]; rfl⟩
      · obtain ⟨cs, h4⟩ := k.ρdom b r h3
        exact ⟨cs, by rw [bk.out b hbl hm]; exact h4⟩
    · obtain ⟨cs, h4⟩ := k1.ρdom _ r h3
      exact ⟨_, by rw [bk.new b hbl, h4]; rfl⟩
  · intro b x hb
    rcases bτ b x hb with ⟨hbl, hm, h3⟩ | ⟨hbl, hm, h3⟩ | ⟨hbl, h3⟩
    · obtain ⟨e, h4⟩ := k1.τdom _ x h3
      exact ⟨e, by rw [bk.inn _ _ (idxOf_get hm), h4]; rfl⟩
    · obtain ⟨e, h4⟩ := k.τdom b x h3
      exact ⟨e, by rw [bk.out b hbl hm]; exact h4⟩
    · obtain ⟨e, h4⟩ := k1.τdom _ x h3
      exact ⟨e, by rw [bk.new b hbl, h4]; rfl⟩
  · intro b b' r hb hb'
    have fresh : ∀ q, S1.ρ (idx.length + q) = some r → w.heap.size ≤ r := fun q hq => by
      rcases st.ext.newρ _ _ hq with h4 | h4
      · rw [(sub0 _).1] at h4; cases h4
      · exact h4
    rcases bρ b r hb with ⟨h3, h4⟩ | ⟨h3, h4⟩
    · rcases bρ b' r hb' with ⟨h5, h6⟩ | ⟨h5, h6⟩
      · exact k.injρ b b' r h4 h6
      · have := fresh _ h6; have := (k.lt h4).2; omega
    · rcases bρ b' r hb' with ⟨h5, h6⟩ | ⟨h5, h6⟩
      · have := fresh _ h4; have := (k.lt h6).2; omega
      · have := k1.injρ _ _ r h4 h6; omega
  · intro b b' r c c' l l' hb hb'
    have fresh : ∀ q c l, S1.τ (idx.length + q) = some (r, c, l) → w.heap.size ≤ r := fun q c l hq => by
      rcases st.ext.newτ _ _ _ _ hq with ⟨_, _, h4⟩ | h4
      · rw [(sub0 _).2] at h4; cases h4
      · exact h4
    have known : ∀ b c l, b ∈ idx → S1.τ (idx.idxOf b) = some (r, c, l) → (∃ c0 l0, S.τ b = some (r, c0, l0)) ∨ w.heap.size ≤ r := fun b c l hm hq => by
      rcases st.ext.newτ _ _ _ _ hq with ⟨c0, l0, h4⟩ | h4
      · simp only [Sh.sub, idxOf_get hm] at h4; exact .inl ⟨c0, l0, h4⟩
      · exact .inr h4
    rcases bτ b _ hb with ⟨h3, hm, h4⟩ | ⟨h3, hm, h4⟩ | ⟨h3, h4⟩
    · rcases bτ b' _ hb' with ⟨h5, hm', h6⟩ | ⟨h5, hm', h6⟩ | ⟨h5, h6⟩
      · have := k1.injτ _ _ r c c' l l' h4 h6
        have e1 := idxOf_get hm
        have e2 := idxOf_get hm'
        rw [this, e2] at e1
        exact (Option.some.inj e1).symm
      · exfalso
        rcases known b c l hm h4 with ⟨c0, l0, h7⟩ | h7
        · have := k.injτ b b' r c0 c' l0 l' h7 h6; subst this; exact hm' hm
        · have := (k.ltτ h6).2; omega
      · exfalso
        have := k1.injτ _ _ r c c' l l' h4 h6
        have := List.idxOf_lt_length_of_mem hm
        omega
    · rcases bτ b' _ hb' with ⟨h5, hm', h6⟩ | ⟨h5, hm', h6⟩ | ⟨h5, h6⟩
      · exfalso
        rcases known b' c' l' hm' h6 with ⟨c0, l0, h7⟩ | h7
        · have := k.injτ b b' r c c0 l l0 h4 h7; subst this; exact hm hm'
        · have := (k.ltτ h4).2; omega
      · exact k.injτ b b' r c c' l l' h4 h6
      · have := fresh _ _ _ h6; have := (k.ltτ h4).2; omega
    · rcases bτ b' _ hb' with ⟨h5, hm', h6⟩ | ⟨h5, hm', h6⟩ | ⟨h5, h6⟩
      · exfalso
        have := k1.injτ _ _ r c c' l l' h4 h6
        have := List.idxOf_lt_length_of_mem hm'
        omega
      · have := fresh _ _ _ h4; have := (k.ltτ h6).2; omega
      · have := k1.injτ _ _ r c c' l l' h4 h6; omega
  · intro b b' r c l hb hb'
    rcases bρ b r hb with ⟨h3, h4⟩ | ⟨h3, h4⟩
    · rcases bτ b' _ hb' with ⟨h5, hm', h6⟩ | ⟨h5, hm', h6⟩ | ⟨h5, h6⟩
      · by_cases hm : b ∈ idx
        · exact k1.apart _ _ r c l ((inρ _ _ r (idxOf_get hm)).2 h4) h6
        · rcases st.ext.newτ _ _ _ _ h6 with ⟨c0, l0, h7⟩ | h7
          · simp only [Sh.sub, idxOf_get hm'] at h7
            exact k.apart b b' r c0 l0 h4 h7
          · have := (k.lt h4).2; omega
      · exact k.apart b b' r c l h4 h6
      · rcases st.ext.newτ _ _ _ _ h6 with ⟨c0, l0, h7⟩ | h7
        · rw [(sub0 _).2] at h7; cases h7
        · have := (k.lt h4).2; omega
    · rcases bτ b' _ hb' with ⟨h5, hm', h6⟩ | ⟨h5, hm', h6⟩ | ⟨h5, h6⟩
      · exact k1.apart _ _ r c l h4 h6
      · rcases st.ext.newρ _ _ h4 with h7 | h7
        · rw [(sub0 _).1] at h7; cases h7
        · have := (k.ltτ h6).2; omega
      · exact k1.apart _ _ r c l h4 h6
  · exact frz_step k hext hfr
  · exact laid_step k hext

theorem callA_sound [Tabs P] (hcall : CallOk P call) (hkeep : KeepCall call) {g : FuncId} {args : List AVal} {h : AHeap} {r : CR} (e : callA call h g args = some r) :
    (∃ fn, P.funcs[g]? = some fn ∧ fn.body.isSome = true ∧ (fn.name == "runtime.NumGoroutine") = false) ∧
    ∀ (S : Sh) (w : World) (vs : Array Value), WR P S h w → VRl S args vs.toList → Calls P g vs w (CallPost P S h w r) := by
  unfold callA at e
  simp only at e
  generalize hidx : reach h 256 (refsL args) [] = idx at e
  have hnd : idx.Nodup := by rw [← hidx]; exact reach_nodup h _ _ _ List.nodup_nil
  split at e
  · rename_i hok
    obtain ⟨ok, hargs⟩ := subOk_ok hnd hok
    split at e
    · rename_i v f hr
      cases e
      obtain ⟨h1, h2⟩ := hcall _ _ _ _ hr
      refine ⟨h1, fun S w vs k ha => calls_mono (h2 (S.sub idx) w vs (sub_wr k ok) (ha.ren (S := S) (S' := S.sub idx) _ (fun _ _ h => h) (fun b hb => sub_ref (hargs b hb)))) ?_⟩
      rintro e' w' ⟨u, S1, rfl, st, hv⟩
      obtain ⟨g1, g2⟩ := back_wr k ok st (backE_ok ok (hkeep _ _ _ _ hr))
      exact ⟨u, _, rfl, g1, g2 hv⟩
    · rename_i v f hr
      cases e
      obtain ⟨h1, h2⟩ := hcall _ _ _ _ hr
      refine ⟨h1, fun S w vs k ha => calls_mono (h2 (S.sub idx) w vs (sub_wr k ok) (ha.ren (S := S) (S' := S.sub idx) _ (fun _ _ h => h) (fun b hb => sub_ref (hargs b hb)))) ?_⟩
      rintro e' w' ⟨u, S1, rfl, st, hv⟩
      obtain ⟨g1, g2⟩ := back_wr k ok st (backE_ok ok (hkeep _ _ _ _ hr))
      exact ⟨u, _, rfl, g1, g2 hv⟩
    · cases e
  · cases e

theorem backE_keep {h : AHeap} {idx : List Nat} (ok : SubOk h idx) {f : Eff} (hk : KeepF (subH h idx) f) : KeepF h (backE h idx f) := by
  cases f with
  | same => exact KeepH.refl _ _
  | heap h' d =>
    have bk := backE_ok ok hk
    refine ⟨bk.len, fun b hb hd => ?_⟩
    simp only [backE, Eff.of, Eff.dirt] at hd ⊢
    rw [List.getElem?_append_left (by rw [putBack_length]; exact hb), putBack_other]
    intro i hi e
    refine hd (List.mem_map.2 ⟨i, hi, ?_⟩)
    have := (List.getElem?_eq_some_iff.1 e).1
    simp only [backN, this, if_true, List.getD_eq_getElem?_getD, e, Option.getD_some]
theorem callA_keep (hkeep : KeepCall call) {g : FuncId} {args : List AVal} {h : AHeap} {r : CR} (e : callA call h g args = some r) : KeepF h r.eff := by
  unfold callA at e
  simp only at e
  generalize hidx : reach h 256 (refsL args) [] = idx at e
  have hnd : idx.Nodup := by rw [← hidx]; exact reach_nodup h _ _ _ List.nodup_nil
  split at e
  · rename_i hok
    obtain ⟨ok, hargs⟩ := subOk_ok hnd hok
    split at e
    · rename_i v f hr; cases e; exact backE_keep ok (hkeep _ _ _ _ hr)
    · rename_i v f hr; cases e; exact backE_keep ok (hkeep _ _ _ _ hr)
    · cases e
  · cases e
end Go.Ab
