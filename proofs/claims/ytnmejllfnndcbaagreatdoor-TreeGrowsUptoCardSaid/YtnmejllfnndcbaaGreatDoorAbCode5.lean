/- Soundness of code. -/
import Derived.Test.YtnmejllfnndcbaaGreatDoorAbCode4
import Derived.LoopN
namespace Go.Ab
variable {P : Program} {cmp : List TypeId} {call : Call}

/-- A loop's rounds. -/
inductive Rounds (f : St → Option (AEx × St)) : Nat → St → AEx × St → Prop
  | stop {s : St} {x : AEx × St} (e : f s = some x) (h : ∀ s', x ≠ (.normal, s')) : Rounds f 1 s x
  | again {n : Nat} {s s' : St} {x : AEx × St} (e : f s = some (.normal, s')) (h : Rounds f n s' x) : Rounds f (n + 1) s x

/-- What answers for loops tells the truth. -/
def LpOk (lp : Lp) : Prop := ∀ f s x, lp f s = some x → ∃ n, Rounds f n s x

theorem loopN_ok (n : Nat) : LpOk (loopN n) := by
  induction n with
  | zero => intro f s x e; cases e
  | succ n ih =>
    intro f s x e
    unfold loopN at e
    split at e
    · rename_i s' hs
      obtain ⟨m, hm⟩ := ih f s' x e
      exact ⟨m + 1, .again hs hm⟩
    · rename_i h
      exact ⟨1, .stop e (fun s' hx => h s' (by rw [e, hx]))⟩

theorem Post.imp [Tabs P] {S : Sh} {w : World} {ds : List Deferred} {Q Q' : Exit → Act → World → Prop} {x : AEx × St} (k : Post P S w ds Q x) (h : ∀ e a w, Q e a w → Q' e a w) : Post P S w ds Q' x := by
  intro S' w' a' st ht hd
  have := k S' w' a' st ht hd
  obtain ⟨e, s⟩ := x
  cases e with
  | normal => exact h _ _ _ this
  | exit id => exact h _ _ _ this
  | ret => exact h _ _ _ this
  | pan u => exact fun v hv => h _ _ _ (this v hv)

theorem codeA_sound [Tabs P] (hmix : P.follows .mixedOrders = true) (hcmp : ∀ t ∈ cmp, cmpOk P t = true) (hcall : CallOk P call) (hkeep : KeepCall call) {lp : Lp} (hlp : LpOk lp) {ds : List Deferred} : ∀ (c : Code) (s : St) (x : AEx × St), codeA P cmp call lp c s = some x →
    ∀ (a : Act) (S : Sh) (w : World) (Q : Exit → Act → World → Prop), WR P S s.heap w → VRl S s.tmps a.tmps.toList → a.defers = ds → Post P S w ds Q x → c.wp P Q a w := by
  intro c
  induction c with
  | skip => intro s x e a S w Q k ht hd hp; cases e; exact wp_skip (hp S w a (.refl k) ht hd)
  | region id ops draw =>
    intro s x e a S w Q k ht hd hp
    cases draw with
    | false => exact region_sound hcmp hcall hkeep k ht hd e hp
    | true =>
      simp only [codeA] at e
      split at e
      · rename_i hc
        simp only [Bool.and_eq_true] at hc
        split at e
        · rename_i s' hs
          cases e
          exact region_draw_sound hmix hcmp hcall hkeep hc.1 hc.2 k ht hd hs hp
        · cases e
      · cases e
  | seq c1 c2 ih1 ih2 =>
    intro s x e a S w Q k ht hd hp
    simp only [codeA] at e
    refine wp_seq ?_
    split at e
    · rename_i s' h1
      refine ih1 s _ h1 a S w _ k ht hd ?_
      intro S' w' a' st ht' hd'
      exact ih2 s' x e a' S' w' Q st.wr ht' hd' (hp.later st)
    · rename_i r h1
      refine ih1 s x e a S w _ k ht hd ?_
      intro S' w' a' st ht' hd'
      have := hp S' w' a' st ht' hd'
      obtain ⟨ex, sx⟩ := x
      cases ex with
      | normal => exact (h1 sx e).elim
      | exit id => exact this
      | ret => exact this
      | pan u => exact this
  | cond c t f ih1 ih2 =>
    intro s x e a S w Q k ht hd hp
    simp only [codeA] at e
    split at e
    · rename_i hc
      have hv := constA_sound ht hc
      generalize hve : a.eval c = vc at hv
      cases hv
      exact wp_cond_true hve (ih1 s x e a S w Q k ht hd hp)
    · rename_i hc
      have hv := constA_sound ht hc
      generalize hve : a.eval c = vc at hv
      cases hv
      exact wp_cond_false hve (ih2 s x e a S w Q k ht hd hp)
    · cases e
  | block id b ih =>
    intro s x e a S w Q k ht hd hp
    simp only [codeA] at e
    refine wp_block ?_
    split at e
    · rename_i j s' hb
      refine ih s _ hb a S w _ k ht hd ?_
      intro S' w' a' st ht' hd'
      show Exit.inBlock id Q (.exit j) a' w'
      simp only [Exit.inBlock]
      split at e
      · rename_i hj
        cases e
        rw [if_pos hj]
        exact hp S' w' a' st ht' hd'
      · rename_i hj
        cases e
        rw [if_neg hj]
        exact hp S' w' a' st ht' hd'
    · rename_i hb
      refine ih s x e a S w _ k ht hd ?_
      intro S' w' a' st ht' hd'
      have := hp S' w' a' st ht' hd'
      obtain ⟨ex, sx⟩ := x
      cases ex with
      | normal => exact this
      | exit j => exact (hb j sx e).elim
      | ret => exact this
      | pan u => exact this
  | loop b ih =>
    intro s x e a S w Q k ht hd hp
    simp only [codeA] at e
    obtain ⟨n, hn⟩ := hlp _ _ _ e
    refine wp_loop_rounds n ?_
    clear e
    induction hn generalizing a S w with
    | stop he hx =>
      rename_i s x
      refine ih s x he a S w _ k ht hd ?_
      intro S' w' a' st ht' hd'
      have := hp S' w' a' st ht' hd'
      obtain ⟨ex, sx⟩ := x
      cases ex with
      | normal => exact (hx sx rfl).elim
      | exit j => exact this
      | ret => exact this
      | pan u => exact this
    | again he _ ih2 =>
      rename_i n s s' x _
      refine ih s _ he a S w _ k ht hd ?_
      intro S' w' a' st ht' hd'
      exact ih2 a' S' w' st.wr ht' hd' (hp.later st)
  | rangeFunc => intro s x e; cases e
  | exit id => intro s x e a S w Q k ht hd hp; cases e; exact wp_exit (hp S w a (.refl k) ht hd)
  | scope => intro s x e; cases e
  | label => intro s x e; cases e
  | goto => intro s x e; cases e
  | ret => intro s x e a S w Q k ht hd hp; cases e; exact wp_ret (hp S w a (.refl k) ht hd)
  | refuse => intro s x e; cases e

def resOne (ts : Array Value) : ResultVar → Sem Value
  | .tmp t => pure (ts.getD t undef)
  | .cell a t => do loadVar t (← asAddr (ts.getD a undef))
def tupleV : List Value → Value
  | [x] => x
  | xs => .tuple xs.toArray
theorem results_eq (fn : Func) (ts : Array Value) : results fn ts = (do let vs ← fn.results.mapM (resOne ts); pure (if h : vs.size = 1 then vs[0] else .tuple vs)) := by
  unfold results
  have : (fun | .tmp t => pure (ts.getD t undef) | .cell a t => do loadVar t (← asAddr (ts.getD a undef)) : ResultVar → Sem Value) = resOne ts := by
    funext r; cases r <;> rfl
  rfl
/-- The results. -/
theorem resA_sound [Tabs P] {S : Sh} {s : St} {w : World} {ts : Array Value} (k : WR P S s.heap w) (ht : VRl S s.tmps ts.toList) : ∀ (rs : List ResultVar) (vs : List AVal), resA P rs s = some vs →
    ∃ xs : List Value, (rs.mapM (resOne ts)).run P w = .ok xs w ∧ VRl S vs xs
  | [], vs, e => by cases e; exact ⟨[], rfl, .nil S⟩
  | .tmp t :: r, vs, e => by
    unfold resA at e
    split at e
    · rename_i u l h1 h2
      cases e
      obtain ⟨xs, g1, g2⟩ := resA_sound k ht r l h2
      obtain ⟨v, hv, hr⟩ := ht.get h1
      rw [Array.getElem?_toList] at hv
      refine ⟨v :: xs, ?_, .cons hr g2⟩
      have : ts.getD t undef = v := by simp [Array.getD_eq_getD_getElem?, hv]
      simp only [List.mapM_cons, resOne, Sem.run_bind, Sem.run_pure, Result.andThen_ok, this]
      rw [g1]; rfl
    · cases e
  | .cell p t :: r, vs, e => by
    unfold resA at e
    split at e
    · rename_i q h1
      split at e
      · rename_i u l h2 h3
        cases e
        obtain ⟨xs, g1, g2⟩ := resA_sound k ht r l h3
        obtain ⟨v, hv, hr⟩ := ht.get h1
        rw [Array.getElem?_toList] at hv
        obtain ⟨y, hy, hyr⟩ := loadA_sound k hr h2
        refine ⟨y :: xs, ?_, .cons hyr g2⟩
        have e1 : ts.getD p undef = v := by simp [Array.getD_eq_getD_getElem?, hv]
        have e2 : (do loadVar t (← asAddr v) : Sem Value).run P w = .ok y w := by
          unfold loadA at h2
          cases hr with
          | ptr b o r hr => simpa [Instr.loadAt, Instr.sureAddr, asAddr] using hy
          | eptr cs o r o0 vs h1 hp h2 => simpa [Instr.loadAt, Instr.sureAddr, asAddr] using hy
          | _ => simp at h2
        simp only [List.mapM_cons, resOne, e1]
        rw [Sem.run_bind, e2]
        simp only [Result.andThen_ok, Sem.run_bind]
        rw [g1]; rfl
      · cases e
    · cases e
end Go.Ab
