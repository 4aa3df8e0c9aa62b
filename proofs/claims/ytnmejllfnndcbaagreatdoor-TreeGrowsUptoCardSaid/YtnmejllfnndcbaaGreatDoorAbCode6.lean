/- What stays in the evaluator's heap. -/
import Derived.Test.YtnmejllfnndcbaaGreatDoorAbCode5
namespace Go.Ab
variable {P : Program} {cmp : List TypeId} {call : Call}

theorem KeepH.app (h : AHeap) (x : List Blk) (d : List Nat) : KeepH h (h ++ x) d := ⟨by simp, fun b hb _ => List.getElem?_append_left hb⟩
theorem KeepH.set (h : AHeap) (b : Nat) (x : Blk) : KeepH h (h.set b x) [b] := ⟨by simp, fun c _ hc => List.getElem?_set_ne (fun e => hc (by simp [e]))⟩
theorem KeepH.trans {h1 h2 h3 : AHeap} {d1 d2 d : List Nat} (a : KeepH h1 h2 d1) (b : KeepH h2 h3 d2) (s1 : ∀ x ∈ d1, x ∈ d) (s2 : ∀ x ∈ d2, x ∈ d) : KeepH h1 h3 d :=
  ⟨Nat.le_trans a.1 b.1, fun c hc hd => by
    rw [b.2 c (Nat.lt_of_lt_of_le hc a.1) (fun hm => hd (s2 c hm)), a.2 c hc (fun hm => hd (s1 c hm))]⟩

def KeepR (h : AHeap) : OR → Prop
  | .val _ f => KeepF h f
  | .pan _ f => KeepF h f

theorem opA_keep (hc : KeepCall call) {o : Oper} {ts : List AVal} {h : AHeap} {r : OR} (e : opA P cmp call o ts h = some r) : KeepR h r := by
  have same : ∀ {v : AVal}, KeepR h (.val v .same) := KeepH.refl _ _
  by_cases h0 : cls o = 0
  · obtain ⟨_, v, rfl⟩ := opA_silent h0 e
    exact same
  obtain ⟨dst, op, type, pos, after, guard⟩ := o
  cases op with
  | call c =>
    obtain ⟨callee, args, ats⟩ := c
    cases callee with
    | builtin b =>
      cases b <;> (try (exact absurd rfl h0))
      simp only [opA] at e
      split at e
      · cases e
      · split at e
        · rename_i x y t _ _ a f' hap
          split at e
          · cases e
            unfold appendA at hap
            (repeat' split at hap) <;> first
              | (cases hap; done)
              | (cases hap; exact same)
              | (cases hap; exact KeepH.app _ _ _)
              | (cases hap; exact KeepH.set _ _ _)
          · cases e
        · cases e
      · cases e
    | value f =>
      simp only [opA] at e
      split at e
      · split at e
        · rename_i r' hr'
          cases e
          have := callA_keep hc hr'
          cases r' <;> exact this
        · cases e
      · cases e
    | invoke r m => simp [opA] at e
  | alloc t =>
    simp only [opA] at e
    split at e
    · cases e; exact KeepH.app _ _ _
    · cases e
  | box t x =>
    simp only [opA] at e
    split at e
    · cases e; exact KeepH.app _ _ _
    · cases e
  | load t x =>
    obtain ⟨⟨v, rfl⟩, _⟩ := opA_load rfl e
    exact same
  | store t x y =>
    simp only [opA] at e
    split at e
    · split at e
      · rename_i h' b hs
        cases e
        unfold storeA at hs
        (repeat' split at hs) <;> first
          | (cases hs; done)
          | skip
        rw [Option.map_eq_some_iff] at hs
        obtain ⟨cs, _, hs⟩ := hs
        cases hs
        exact KeepH.set _ _ _
      · cases e
    · cases e
  | panic x =>
    simp only [opA] at e
    split at e
    · cases e; exact KeepH.refl _ _
    · cases e
  | _ => exact absurd rfl h0

def KeepS (s s' : St) : Prop := KeepH s.heap s'.heap s'.dirty ∧ ∀ x ∈ s.dirty, x ∈ s'.dirty
theorem KeepS.refl (s : St) : KeepS s s := ⟨.refl _ _, fun _ h => h⟩
theorem KeepS.trans {a b c : St} (h : KeepS a b) (k : KeepS b c) : KeepS a c := ⟨h.1.trans k.1 (fun x hx => k.2 x hx) (fun _ h => h), fun x hx => k.2 x (h.2 x hx)⟩
theorem KeepS.eff {s : St} {f : Eff} {ts : List AVal} (h : KeepF s.heap f) : KeepS s ⟨ts, f.of s.heap, f.dirt ++ s.dirty⟩ :=
  ⟨⟨h.1, fun b hb hd => h.2 b hb (fun hm => hd (by simp [hm]))⟩, fun x hx => by simp [hx]⟩

theorem opsA_keep (hc : KeepCall call) (ops : List Oper) : ∀ (l : List Oper) (s : St) (x : AEx × St), opsA P cmp call ops l s = some x → KeepS s x.2
  | [], s, x, e => by cases e; exact .refl s
  | o :: r, s, x, e => by
    unfold opsA at e
    split at e
    · split at e
      · rename_i v f hv
        exact (KeepS.eff (opA_keep hc hv)).trans (opsA_keep hc ops r _ x e)
      · rename_i v f hv
        cases e
        exact KeepS.eff (opA_keep hc hv)
      · cases e
    · have := opsA_keep hc ops r _ x e
      exact this
    · cases e
theorem opsD_keep (hc : KeepCall call) {lim : Nat} (ops : List Oper) : ∀ (l : List Nat) (s sF : St), opsD P cmp call lim ops l s = some sF → KeepS s sF
  | [], s, x, e => by cases e; exact .refl s
  | j :: r, s, x, e => by
    simp only [opsD] at e
    split at e
    · rename_i s1 hs
      obtain ⟨o, _, hcase⟩ := stepD_inv hs
      rcases hcase with ⟨_, v, f, hv, _, rfl⟩ | ⟨_, rfl⟩
      · exact (KeepS.eff (opA_keep hc hv)).trans (opsD_keep hc ops r _ x e)
      · have := opsD_keep hc ops r _ x e
        exact this
    · cases e

theorem codeA_keep (hc : KeepCall call) {lp : Lp} (hlp : LpOk lp) : ∀ (c : Code) (s : St) (x : AEx × St), codeA P cmp call lp c s = some x → KeepS s x.2 := by
  intro c
  induction c with
  | skip => intro s x e; cases e; exact .refl s
  | region id ops draw =>
    intro s x e
    cases draw with
    | false => exact opsA_keep hc _ _ s x e
    | true =>
      simp only [codeA] at e
      split at e
      · split at e
        · rename_i s' hs; cases e; exact opsD_keep hc _ _ s s' hs
        · cases e
      · cases e
  | seq c1 c2 ih1 ih2 =>
    intro s x e
    simp only [codeA] at e
    split at e
    · rename_i s' h1; exact (ih1 s _ h1).trans (ih2 s' x e)
    · exact ih1 s x e
  | cond c t f ih1 ih2 =>
    intro s x e
    simp only [codeA] at e
    split at e
    · exact ih1 s x e
    · exact ih2 s x e
    · cases e
  | block id b ih =>
    intro s x e
    simp only [codeA] at e
    split at e
    · rename_i j s' hb
      have := ih s _ hb
      split at e <;> (cases e; exact this)
    · exact ih s x e
  | loop b ih =>
    intro s x e
    simp only [codeA] at e
    obtain ⟨n, hn⟩ := hlp _ _ _ e
    clear e
    induction hn with
    | stop he hx => exact ih _ _ he
    | again he _ ih2 => exact (ih _ _ he).trans ih2
  | rangeFunc => intro s x e; cases e
  | exit id => intro s x e; cases e; exact .refl s
  | scope => intro s x e; cases e
  | label => intro s x e; cases e
  | goto => intro s x e; cases e
  | ret => intro s x e; cases e; exact .refl s
  | refuse => intro s x e; cases e

theorem mem_dedup {l : List Nat} {x : Nat} : x ∈ dedup l ↔ x ∈ l := by
  induction l with
  | nil => rfl
  | cons b r ih =>
    simp only [dedup]
    split
    · rename_i hc
      rw [List.contains_eq_mem] at hc
      simp only [decide_eq_true_eq] at hc
      rw [ih, List.mem_cons]
      constructor
      · exact .inr
      · rintro (rfl | h)
        · exact ih.1 hc
        · exact h
    · rw [List.mem_cons, List.mem_cons, ih]
theorem nodup_dedup (l : List Nat) : (dedup l).Nodup := by
  induction l with
  | nil => exact List.nodup_nil
  | cons b r ih =>
    simp only [dedup]
    split
    · exact ih
    · rename_i hc
      refine List.nodup_cons.2 ⟨?_, ih⟩
      rw [List.contains_eq_mem] at hc
      simpa using hc

theorem leaveBlks_keep (n : Nat) (h : AHeap) : ∀ (d : List Nat) (k : AHeap) (mv : List Nat) (k' : AHeap) (mv' : List Nat), leaveBlks n h d k mv = some (k', mv') →
    k'.length = k.length ∧ ∀ b, b ∉ d → k'[b]? = k[b]?
  | [], k, mv, k', mv', e => by cases e; exact ⟨rfl, fun _ _ => rfl⟩
  | b :: r, k, mv, k', mv', e => by
    simp only [leaveBlks] at e
    split at e
    · obtain ⟨h1, h2⟩ := leaveBlks_keep n h r _ _ k' mv' e
      refine ⟨by rw [h1]; simp, fun c hc => ?_⟩
      rw [h2 c (fun hm => hc (by simp [hm])), List.getElem?_set_ne (fun e => hc (by simp [e]))]
    · cases e

theorem leaveA_keep {n : Nat} {v : AVal} {h0 h : AHeap} {d : List Nat} (hn : n = h0.length) (hk : KeepH h0 h d) : KeepF h0 (leaveA n v h d).2 := by
  subst hn
  have hd : ∀ b, b < h0.length → b ∉ dedup (d.filter (· < h0.length)) → h[b]? = h0[b]? := fun b hb hm => hk.2 b hb (fun hm' => hm (mem_dedup.2 (List.mem_filter.2 ⟨hm', by simpa using hb⟩)))
  unfold leaveA
  simp only
  split
  · split
    · exact KeepH.refl _ _
    · split
      · rename_i k mv hl
        obtain ⟨h1, h2⟩ := leaveBlks_keep _ _ _ _ _ _ _ hl
        have hkl : k.length = h0.length := by rw [h1, List.length_take]; have := hk.1; omega
        refine ⟨by simp [Eff.of, hkl], fun b hb hm => ?_⟩
        simp only [Eff.of]
        rw [List.getElem?_append_left (by omega), h2 b hm, List.getElem?_take_of_lt hb]
        exact hd b hb hm
      · exact ⟨hk.1, hd⟩
  · exact ⟨hk.1, hd⟩

theorem fnA_keep (hc : KeepCall call) {lp : Lp} (hlp : LpOk lp) : KeepCall (fnA P cmp call lp) := by
  intro f args h r e
  unfold fnA at e
  split at e
  · cases e
  · split at e
    · cases e
    · split at e
      · rename_i s hs
        split at e
        · cases e
          exact leaveA_keep rfl (codeA_keep hc hlp _ _ _ hs).1
        · cases e
      · rename_i s hs
        split at e
        · cases e
          exact leaveA_keep rfl (codeA_keep hc hlp _ _ _ hs).1
        · cases e
      · rename_i v s hs
        cases e
        exact leaveA_keep rfl (codeA_keep hc hlp _ _ _ hs).1
      · cases e
end Go.Ab
