/- The evaluator without a bound on rounds and calls. -/
import Derived.Test.YtnmejllfnndcbaaGreatDoorAbCode5
set_option linter.unusedSimpArgs false
set_option linter.unusedVariables false
namespace Go.Ab
variable {P : Program} {cmp : List TypeId}

def CallLe (c c' : Call) : Prop := ∀ f a h r, c f a h = some r → c' f a h = some r
def FunLe (f f' : St → Option (AEx × St)) : Prop := ∀ s x, f s = some x → f' s = some x
def LpLe (l l' : Lp) : Prop := ∀ f f' s x, FunLe f f' → l f s = some x → l' f' s = some x

theorem callA_le {c c' : Call} (hc : CallLe c c') {h : AHeap} {g : FuncId} {args : List AVal} {r : CR} (e : callA c h g args = some r) : callA c' h g args = some r := by
  unfold callA at e ⊢
  simp only at e ⊢
  split at e
  · rename_i hok
    rw [if_pos hok]
    split at e
    · rename_i v f hr; simp only [hc _ _ _ _ hr]; exact e
    · rename_i v f hr; simp only [hc _ _ _ _ hr]; exact e
    · cases e
  · cases e
theorem opA_le {c c' : Call} (hc : CallLe c c') {o : Oper} {ts : List AVal} {h : AHeap} {r : OR} (e : opA P cmp c o ts h = some r) : opA P cmp c' o ts h = some r := by
  obtain ⟨dst, op, type, pos, after, guard⟩ := o
  cases op with
  | call cl =>
    obtain ⟨callee, args, ats⟩ := cl
    cases callee with
    | value f =>
      simp only [opA] at e ⊢
      split at e
      · rename_i g first cap as hf has
        split at e
        · rename_i r' hr'
          simp only [callA_le hc hr']
          exact e
        · cases e
      · cases e
    | builtin b => cases b <;> exact e
    | invoke r m => exact e
  | makeFunc fn a b => cases fn <;> exact e
  | _ => exact e

theorem opsA_le {c c' : Call} (hc : CallLe c c') (ops : List Oper) : ∀ (l : List Oper) (s : St) (x : AEx × St), opsA P cmp c ops l s = some x → opsA P cmp c' ops l s = some x
  | [], s, x, e => e
  | o :: r, s, x, e => by
    unfold opsA at e ⊢
    split at e
    · rename_i hw
      try simp only [hw]
      split at e
      · rename_i v f hv; simp only [opA_le hc hv]; exact opsA_le hc ops r _ x e
      · rename_i v f hv; simp only [opA_le hc hv]; exact e
      · cases e
    · exact opsA_le hc ops r _ x e
    · cases e
theorem opsD_le {c c' : Call} (hc : CallLe c c') {lim : Nat} (ops : List Oper) : ∀ (l : List Nat) (s x : St), opsD P cmp c lim ops l s = some x → opsD P cmp c' lim ops l s = some x
  | [], s, x, e => e
  | j :: r, s, x, e => by
    simp only [opsD] at e ⊢
    split at e
    · rename_i s1 hs
      have : stepD P cmp c' lim ops j s = some s1 := by
        letI : Tabs P := ⟨fun _ => True⟩
        obtain ⟨o, ho, hcase⟩ := stepD_inv hs
        unfold stepD
        simp only [ho]
        rcases hcase with ⟨hw, v, f, hv, ha, rfl⟩ | ⟨hw, rfl⟩
        · simp only [hw, opA_le hc hv, ha, if_true]
        · simp only [hw]
      simp only [this]
      exact opsD_le hc ops r _ x e
    · cases e

theorem codeA_le {c c' : Call} (hc : CallLe c c') {l l' : Lp} (hl : LpLe l l') : ∀ (cd : Code) (s : St) (x : AEx × St), codeA P cmp c l cd s = some x → codeA P cmp c' l' cd s = some x := by
  intro cd
  induction cd with
  | skip => intro s x e; exact e
  | region id ops draw =>
    intro s x e
    cases draw with
    | false => exact opsA_le hc _ _ s x e
    | true =>
      simp only [codeA] at e ⊢
      split at e
      · rename_i hb
        rw [if_pos hb]
        split at e
        · rename_i s' hs; simp only [opsD_le hc _ _ _ _ hs]; exact e
        · cases e
      · cases e
  | seq c1 c2 ih1 ih2 =>
    intro s x e
    simp only [codeA] at e ⊢
    split at e
    · rename_i s' h1; simp only [ih1 _ _ h1]; exact ih2 _ _ e
    · rename_i hn
      have h1 := ih1 _ _ e
      obtain ⟨ex, sx⟩ := x
      cases ex with
      | normal => exact (hn sx e).elim
      | exit id => simp only [h1]
      | ret => simp only [h1]
      | pan u => simp only [h1]
  | cond cc t f ih1 ih2 =>
    intro s x e
    simp only [codeA] at e ⊢
    split at e
    · exact ih1 _ _ e
    · exact ih2 _ _ e
    · cases e
  | block id b ih =>
    intro s x e
    simp only [codeA] at e ⊢
    split at e
    · rename_i j s' hb; simp only [ih _ _ hb]; exact e
    · rename_i hn
      have h1 := ih _ _ e
      obtain ⟨ex, sx⟩ := x
      cases ex with
      | normal => simp only [h1]
      | exit id => exact (hn id sx e).elim
      | ret => simp only [h1]
      | pan u => simp only [h1]
  | loop b ih => intro s x e; simp only [codeA] at e ⊢; exact hl _ _ _ _ (fun s x h => ih s x h) e
  | rangeFunc => intro s x e; cases e
  | exit id => intro s x e; exact e
  | scope => intro s x e; cases e
  | label => intro s x e; cases e
  | goto => intro s x e; cases e
  | ret => intro s x e; exact e
  | refuse => intro s x e; cases e

theorem fnA_le {c c' : Call} (hc : CallLe c c') {l l' : Lp} (hl : LpLe l l') : CallLe (fnA P cmp c l) (fnA P cmp c' l') := by
  intro f args h r e
  unfold fnA at e ⊢
  split at e
  · cases e
  · rename_i fn hfn
    split at e
    · cases e
    · rename_i cd hb
      split at e
      · rename_i s hs; simp only [codeA_le hc hl _ _ _ hs]; exact e
      · rename_i s hs; simp only [codeA_le hc hl _ _ _ hs]; exact e
      · rename_i v s hs; simp only [codeA_le hc hl _ _ _ hs]; exact e
      · cases e

theorem loopN_le : ∀ n, LpLe (loopN n) (loopN (n + 1))
  | 0, f, f', s, x, _, e => by cases e
  | n + 1, f, f', s, x, hf, e => by
    unfold loopN at e ⊢
    split at e
    · rename_i s' hs; simp only [hf _ _ hs]; exact loopN_le n f f' s' x hf e
    · rename_i hn
      have h1 := hf _ _ e
      obtain ⟨ex, sx⟩ := x
      cases ex with
      | normal => exact (hn sx e).elim
      | exit id => simp only [h1]
      | ret => simp only [h1]
      | pan u => simp only [h1]
theorem loopN_le' {n m : Nat} (h : n ≤ m) : LpLe (loopN n) (loopN m) := by
  induction h with
  | refl => intro f f' s x hf e
            induction n generalizing s with
            | zero => cases e
            | succ n ih =>
              unfold loopN at e ⊢
              split at e
              · rename_i s' hs; simp only [hf _ _ hs]; exact ih s' e
              · rename_i hn
                have h1 := hf _ _ e
                obtain ⟨ex, sx⟩ := x
                cases ex with
                | normal => exact (hn sx e).elim
                | exit id => simp only [h1]
                | ret => simp only [h1]
                | pan u => simp only [h1]
  | step _ ih => intro f f' s x hf e; exact loopN_le _ f' f' s x (fun _ _ h => h) (ih f f' s x hf e)

theorem evN_le1 {ext : Ext} : ∀ n, CallLe (evN P cmp ext n) (evN P cmp ext (n + 1))
  | 0, f, a, h, r, e => by cases e
  | n + 1, f, a, h, r, e => by
    unfold evN at e ⊢
    split at e
    · exact e
    · exact fnA_le (evN_le1 n) (loopN_le n) f a h r e
theorem evN_le {ext : Ext} {n m : Nat} (h : n ≤ m) : CallLe (evN P cmp ext n) (evN P cmp ext m) := by
  induction h with
  | refl => exact fun f a h r e => e
  | step _ ih => exact fun f a h r e => evN_le1 _ f a h r (ih f a h r e)

/-- What a growing series of answers comes to. -/
noncomputable def lim {α : Type} (g : Nat → Option α) : Option α := open Classical in if h : ∃ r, ∃ n, g n = some r then some h.choose else none
theorem lim_of {α : Type} {g : Nat → Option α} {r : α} (h : lim g = some r) : ∃ n, g n = some r := by
  unfold lim at h
  split at h
  · rename_i hx; cases h; exact hx.choose_spec
  · cases h
theorem lim_some {α : Type} {g : Nat → Option α} (hm : ∀ n m r, n ≤ m → g n = some r → g m = some r) {n : Nat} {r : α} (h : g n = some r) : lim g = some r := by
  unfold lim
  have hx : ∃ r, ∃ n, g n = some r := ⟨r, n, h⟩
  rw [dif_pos hx]
  obtain ⟨m, hm'⟩ := hx.choose_spec
  have h1 := hm n (max n m) r (Nat.le_max_left _ _) h
  have h2 := hm m (max n m) _ (Nat.le_max_right _ _) hm'
  rw [h1] at h2
  rw [Option.some.inj h2]

noncomputable def lpC : Lp := fun f s => lim fun n => loopN n f s
noncomputable def evC (P : Program) (cmp : List TypeId) (ext : Ext) : Call := fun f a h => lim fun n => evN P cmp ext n f a h

theorem lpC_of {f : St → Option (AEx × St)} {s : St} {x : AEx × St} {n : Nat} (h : loopN n f s = some x) : lpC f s = some x :=
  lim_some (fun _ _ _ hnm e => loopN_le' hnm f f _ _ (fun _ _ h => h) e) h
theorem evC_of {ext : Ext} {n : Nat} {f : FuncId} {a : List AVal} {h : AHeap} {r : CR} (e : evN P cmp ext n f a h = some r) : evC P cmp ext f a h = some r :=
  lim_some (fun _ _ _ hnm e => evN_le hnm _ _ _ _ e) e

theorem lpC_eq (f : St → Option (AEx × St)) (s : St) : lpC f s = match f s with | some (.normal, s') => lpC f s' | r => r := by
  apply Option.ext
  intro x
  constructor
  · intro h
    obtain ⟨n, hn⟩ := lim_of h
    cases n with
    | zero => cases hn
    | succ n =>
      unfold loopN at hn
      split at hn
      · rename_i s' hs; simp only [hs]; exact lpC_of hn
      · rename_i hne
        obtain ⟨ex, sx⟩ := x
        cases ex with
        | normal => exact (hne sx hn).elim
        | exit id => simp only [hn]
        | ret => simp only [hn]
        | pan u => simp only [hn]
  · intro h
    split at h
    · rename_i s' hs
      obtain ⟨n, hn⟩ := lim_of h
      exact lpC_of (n := n + 1) (by unfold loopN; simp only [hs]; exact hn)
    · rename_i hn
      refine lpC_of (n := 1) ?_
      unfold loopN
      obtain ⟨ex, sx⟩ := x
      cases ex with
      | normal => exact (hn sx h).elim
      | exit id => simp only [h]
      | ret => simp only [h]
      | pan u => simp only [h]

theorem lpC_ok : LpOk lpC := fun f s x h => by obtain ⟨n, hn⟩ := lim_of h; exact loopN_ok n f s x hn

section cont
variable {ext : Ext}
theorem callA_cont {h : AHeap} {g : FuncId} {args : List AVal} {r : CR} (e : callA (evC P cmp ext) h g args = some r) : ∃ n, callA (evN P cmp ext n) h g args = some r := by
  unfold callA at e
  simp only at e
  split at e
  · rename_i hok
    split at e
    · rename_i v f hr
      obtain ⟨n, hn⟩ := lim_of hr
      exact ⟨n, by unfold callA; simp only [hok, if_true, hn]; exact e⟩
    · rename_i v f hr
      obtain ⟨n, hn⟩ := lim_of hr
      exact ⟨n, by unfold callA; simp only [hok, if_true, hn]; exact e⟩
    · cases e
  · cases e
theorem opA_cont {o : Oper} {ts : List AVal} {h : AHeap} {r : OR} (e : opA P cmp (evC P cmp ext) o ts h = some r) : ∃ n, opA P cmp (evN P cmp ext n) o ts h = some r := by
  obtain ⟨dst, op, type, pos, after, guard⟩ := o
  cases op with
  | call cl =>
    obtain ⟨callee, args, ats⟩ := cl
    cases callee with
    | value f =>
      simp only [opA] at e ⊢
      split at e
      · rename_i g first cap as hf has
        split at e
        · rename_i r' hr'
          obtain ⟨n, hn⟩ := callA_cont hr'
          exact ⟨n, by simp only [hn]; exact e⟩
        · cases e
      · cases e
    | builtin b => exact ⟨0, by cases b <;> exact e⟩
    | invoke r m => exact ⟨0, e⟩
  | makeFunc fn a b => exact ⟨0, by cases fn <;> exact e⟩
  | _ => exact ⟨0, e⟩
theorem opsA_cont (ops : List Oper) : ∀ (l : List Oper) (s : St) (x : AEx × St), opsA P cmp (evC P cmp ext) ops l s = some x → ∃ n, opsA P cmp (evN P cmp ext n) ops l s = some x
  | [], s, x, e => ⟨0, e⟩
  | o :: r, s, x, e => by
    unfold opsA at e
    split at e
    · rename_i hw
      split at e
      · rename_i v f hv
        obtain ⟨n, hn⟩ := opA_cont hv
        obtain ⟨m, hm⟩ := opsA_cont ops r _ x e
        refine ⟨max n m, ?_⟩
        unfold opsA
        simp only [hw, opA_le (evN_le (Nat.le_max_left n m)) hn]
        exact opsA_le (evN_le (Nat.le_max_right n m)) ops r _ x hm
      · rename_i v f hv
        obtain ⟨n, hn⟩ := opA_cont hv
        exact ⟨n, by unfold opsA; simp only [hw, hn]; exact e⟩
      · cases e
    · rename_i hw
      obtain ⟨m, hm⟩ := opsA_cont ops r _ x e
      exact ⟨m, by unfold opsA; simp only [hw]; exact hm⟩
    · cases e
theorem opsD_cont {lm : Nat} (ops : List Oper) : ∀ (l : List Nat) (s x : St), opsD P cmp (evC P cmp ext) lm ops l s = some x → ∃ n, opsD P cmp (evN P cmp ext n) lm ops l s = some x
  | [], s, x, e => ⟨0, e⟩
  | j :: r, s, x, e => by
    simp only [opsD] at e
    split at e
    · rename_i s1 hs
      have : ∃ n, stepD P cmp (evN P cmp ext n) lm ops j s = some s1 := by
        letI : Tabs P := ⟨fun _ => True⟩
        obtain ⟨o, ho, hcase⟩ := stepD_inv hs
        rcases hcase with ⟨hw, v, f, hv, ha, rfl⟩ | ⟨hw, rfl⟩
        · obtain ⟨n, hn⟩ := opA_cont hv
          exact ⟨n, by unfold stepD; simp only [ho, hw, hn, ha, if_true]⟩
        · exact ⟨0, by unfold stepD; simp only [ho, hw]⟩
      obtain ⟨n, hn⟩ := this
      obtain ⟨m, hm⟩ := opsD_cont ops r _ x e
      have h1 := opsD_le (P := P) (cmp := cmp) (evN_le (P := P) (cmp := cmp) (ext := ext) (Nat.le_max_left n m)) (lim := lm) ops [j] s s1 (by simp only [opsD, hn])
      have h2 := opsD_le (P := P) (cmp := cmp) (evN_le (P := P) (cmp := cmp) (ext := ext) (Nat.le_max_right n m)) (lim := lm) ops r s1 x hm
      refine ⟨max n m, ?_⟩
      simp only [opsD] at h1 ⊢
      split at h1
      · rename_i s' hs'; cases h1; first | exact h2 | (simp only [hs']; exact h2)
      · cases h1
    · cases e
theorem codeA_cont : ∀ (cd : Code) (s : St) (x : AEx × St), codeA P cmp (evC P cmp ext) lpC cd s = some x → ∃ n, codeA P cmp (evN P cmp ext n) (loopN n) cd s = some x := by
  have up : ∀ {n m : Nat} (h : n ≤ m) {cd : Code} {s : St} {x : AEx × St}, codeA P cmp (evN P cmp ext n) (loopN n) cd s = some x → codeA P cmp (evN P cmp ext m) (loopN m) cd s = some x :=
    fun h _ _ _ e => codeA_le (evN_le h) (loopN_le' h) _ _ _ e
  intro cd
  induction cd with
  | skip => intro s x e; exact ⟨0, e⟩
  | region id ops draw =>
    intro s x e
    cases draw with
    | false => exact opsA_cont _ _ s x e
    | true =>
      simp only [codeA] at e
      split at e
      · rename_i hb
        split at e
        · rename_i s' hs
          obtain ⟨n, hn⟩ := opsD_cont _ _ _ _ hs
          exact ⟨n, by simp only [codeA]; rw [if_pos hb]; simp only [hn]; exact e⟩
        · cases e
      · cases e
  | seq c1 c2 ih1 ih2 =>
    intro s x e
    simp only [codeA] at e
    split at e
    · rename_i s' h1
      obtain ⟨n, hn⟩ := ih1 _ _ h1
      obtain ⟨m, hm⟩ := ih2 _ _ e
      exact ⟨max n m, by simp only [codeA, up (Nat.le_max_left n m) hn]; exact up (Nat.le_max_right n m) hm⟩
    · rename_i hn'
      obtain ⟨n, hn⟩ := ih1 _ _ e
      refine ⟨n, ?_⟩
      simp only [codeA]
      obtain ⟨ex, sx⟩ := x
      cases ex with
      | normal => exact (hn' sx e).elim
      | exit id => simp only [hn]
      | ret => simp only [hn]
      | pan u => simp only [hn]
  | cond cc t f ih1 ih2 =>
    intro s x e
    simp only [codeA] at e
    split at e
    · rename_i hv; obtain ⟨n, hn⟩ := ih1 _ _ e; exact ⟨n, by simp only [codeA, hv]; exact hn⟩
    · rename_i hv; obtain ⟨n, hn⟩ := ih2 _ _ e; exact ⟨n, by simp only [codeA, hv]; exact hn⟩
    · cases e
  | block id b ih =>
    intro s x e
    simp only [codeA] at e
    split at e
    · rename_i j s' hb; obtain ⟨n, hn⟩ := ih _ _ hb; exact ⟨n, by simp only [codeA, hn]; exact e⟩
    · rename_i hn'
      obtain ⟨n, hn⟩ := ih _ _ e
      refine ⟨n, ?_⟩
      simp only [codeA]
      obtain ⟨ex, sx⟩ := x
      cases ex with
      | normal => simp only [hn]
      | exit id => exact (hn' id sx e).elim
      | ret => simp only [hn]
      | pan u => simp only [hn]
  | loop b ih =>
    intro s x e
    simp only [codeA] at e
    obtain ⟨k, hk⟩ := lpC_ok _ _ _ e
    clear e
    have : ∃ n, ∀ m, n ≤ m → ∃ q, loopN q (codeA P cmp (evN P cmp ext m) (loopN m) b) s = some x := by
      induction hk with
      | stop he hx =>
        rename_i s x
        obtain ⟨n, hn⟩ := ih _ _ he
        refine ⟨n, fun m hm => ⟨1, ?_⟩⟩
        have h1 := up hm hn
        unfold loopN
        obtain ⟨ex, sx⟩ := x
        cases ex with
        | normal => exact (hx sx rfl).elim
        | exit id => simp only [h1]
        | ret => simp only [h1]
        | pan u => simp only [h1]
      | again he _ ih2 =>
        rename_i k s s' x _
        obtain ⟨n, hn⟩ := ih _ _ he
        obtain ⟨n2, hn2⟩ := ih2
        refine ⟨max n n2, fun m hm => ?_⟩
        obtain ⟨q, hq⟩ := hn2 m (by omega)
        exact ⟨q + 1, by unfold loopN; simp only [up (by omega : n ≤ m) hn]; exact hq⟩
    obtain ⟨n, hn⟩ := this
    obtain ⟨q, hq⟩ := hn n (Nat.le_refl _)
    refine ⟨max n q, ?_⟩
    simp only [codeA]
    exact loopN_le' (Nat.le_max_right n q) _ _ _ _ (fun s x h => up (Nat.le_max_left n q) h) hq
  | rangeFunc => intro s x e; cases e
  | exit id => intro s x e; exact ⟨0, e⟩
  | scope => intro s x e; cases e
  | label => intro s x e; cases e
  | goto => intro s x e; cases e
  | ret => intro s x e; exact ⟨0, e⟩
  | refuse => intro s x e; cases e

theorem fnA_cont {f : FuncId} {a : List AVal} {h : AHeap} {r : CR} (e : fnA P cmp (evC P cmp ext) lpC f a h = some r) : ∃ n, fnA P cmp (evN P cmp ext n) (loopN n) f a h = some r := by
  unfold fnA at e
  split at e
  · cases e
  · rename_i fn hfn
    split at e
    · cases e
    · rename_i cd hb
      split at e
      · rename_i s hs; obtain ⟨n, hn⟩ := codeA_cont _ _ _ hs; exact ⟨n, by unfold fnA; simp only [hfn, hb, hn]; exact e⟩
      · rename_i s hs; obtain ⟨n, hn⟩ := codeA_cont _ _ _ hs; exact ⟨n, by unfold fnA; simp only [hfn, hb, hn]; exact e⟩
      · rename_i v s hs; obtain ⟨n, hn⟩ := codeA_cont _ _ _ hs; exact ⟨n, by unfold fnA; simp only [hfn, hb, hn]; exact e⟩
      · cases e

theorem evC_eq {f : FuncId} (hx : ext f = none) (a : List AVal) (h : AHeap) : evC P cmp ext f a h = fnA P cmp (evC P cmp ext) lpC f a h := by
  apply Option.ext
  intro r
  constructor
  · intro e
    obtain ⟨n, hn⟩ := lim_of e
    cases n with
    | zero => cases hn
    | succ n =>
      unfold evN at hn
      simp only [hx] at hn
      exact fnA_le (fun f a h r e => evC_of e) (fun f f' s x hf e => lpC_of (n := n) (loopN_le' (Nat.le_refl n) f f' s x hf e)) f a h r hn
  · intro e
    obtain ⟨n, hn⟩ := fnA_cont e
    exact evC_of (n := n + 1) (by unfold evN; simp only [hx]; exact hn)
theorem evC_ext {f : FuncId} {g : List AVal → AHeap → Option CR} (hx : ext f = some g) (a : List AVal) (h : AHeap) : evC P cmp ext f a h = g a h := by
  apply Option.ext
  intro r
  constructor
  · intro e
    obtain ⟨n, hn⟩ := lim_of e
    cases n with
    | zero => cases hn
    | succ n => unfold evN at hn; simp only [hx] at hn; exact hn
  · intro e
    exact evC_of (n := 1) (by unfold evN; simp only [hx]; exact e)

theorem evC_ok [Tabs P] (hp : ProgOk P cmp) (hx : ExtOk P ext) : CallOk P (evC P cmp ext) := fun f args h r e => by
  obtain ⟨n, hn⟩ := lim_of e
  exact (evN_ok hp hx n).1 f args h r hn
end cont
end Go.Ab
