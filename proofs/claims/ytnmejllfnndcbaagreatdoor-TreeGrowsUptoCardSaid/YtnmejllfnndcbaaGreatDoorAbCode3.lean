/- Regions whose order is open: any order gives what the order of the text gives. -/
import Derived.Test.YtnmejllfnndcbaaGreatDoorAbCode2
namespace Go.Ab
variable {P : Program} {cmp : List TypeId} {call : Call}

theorem setT_get {ts : List AVal} {dst : Option Tmp} {v : AVal} {t : Tmp} (h : ∀ d, dst = some d → d ≠ t) : (setT ts dst v)[t]? = ts[t]? := by
  cases dst with
  | none => rfl
  | some d => exact List.getElem?_set_ne (h d rfl)
theorem setT_comm {ts : List AVal} {x y : Option Tmp} {u v : AVal} (h : ∀ d, x = some d → y ≠ some d) : setT (setT ts x u) y v = setT (setT ts y v) x u := by
  cases x with
  | none => rfl
  | some d => cases y with
    | none => rfl
    | some d' =>
      have : d ≠ d' := fun e => h d rfl (by rw [e])
      exact List.set_comm _ _ this

theorem wantedA_congr {ops : List Oper} {o : Oper} {ts ts' : List AVal} (h : ∀ t ∈ readsOf ops o, ts'[t]? = ts[t]?) : wantedA ops o ts' = wantedA ops o ts := by
  unfold wantedA
  split
  · rfl
  · rename_i j want hg
    split
    · rename_i oj hj
      split
      · rename_i d hd
        rw [h d (by simp [readsOf, hg, hj, hd])]
      · rfl
    · rfl

theorem indep_dst {ops : List Oper} {x y : Oper} (h : indep ops x y = true) :
    (∀ d, x.dst = some d → ∀ t ∈ readsOf ops y, d ≠ t) ∧ (∀ d, y.dst = some d → ∀ t ∈ readsOf ops x, d ≠ t) ∧ (∀ d, x.dst = some d → y.dst ≠ some d) := by
  unfold indep at h
  simp only [Bool.and_eq_true] at h
  refine ⟨fun d hd t ht e => ?_, fun d hd t ht e => ?_, fun d hd e => ?_⟩
  · have := h.1; simp only [hd, Bool.and_eq_true, Bool.not_eq_true'] at this
    subst e
    have h2 := this.1
    rw [List.contains_eq_mem] at h2
    simp [ht] at h2
  · have := h.2; simp only [hd, Bool.not_eq_true'] at this
    subst e
    rw [List.contains_eq_mem] at this
    simp [ht] at this
  · have := h.1; simp only [hd, Bool.and_eq_true, Bool.not_eq_true'] at this
    rw [e] at this; simp at this

theorem opA_load {o : Oper} {ts : List AVal} {h : AHeap} {r : OR} (hc : cls o = 1) (e : opA P cmp call o ts h = some r) : (∃ v, r = .val v .same) ∧ ∃ t x, o.op = .load t x ∧
    ∀ h' : AHeap, (∀ b off cs, constA x ts = some (.ptr b off) → h[b]? = some (.box cs) → h'[b]? = some (.box cs)) → opA P cmp call o ts h' = some r := by
  obtain ⟨dst, op, type, pos, after, guard⟩ := o
  cases op with
  | call c =>
    obtain ⟨callee, args, ats⟩ := c
    cases callee with
    | builtin b => cases b <;> simp [cls] at hc
    | value f => simp [cls] at hc
    | invoke r m => simp [cls] at hc
  | load t x =>
    simp only [opA] at e ⊢
    split at e
    · rename_i p hp
      split at e
      · rename_i u hu
        cases e
        refine ⟨⟨u, rfl⟩, t, x, rfl, fun h' hh => ?_⟩
        have : loadA P h' t p = some u := by
          unfold loadA at hu ⊢
          cases p <;> simp only at hu ⊢ <;> first | exact hu | skip
          rename_i b off
          split at hu
          · rename_i cs hb; rw [hh b off cs hp hb]; exact hu
          · cases hu
        simp only [this]
      · cases e
    · cases e
  | _ => simp [cls] at hc

theorem opA_makes {o : Oper} {ts : List AVal} {h : AHeap} {v : AVal} {f : Eff} (hc : cls o = 2) (e : opA P cmp call o ts h = some (.val v f)) :
    h.length ≤ (f.of h).length ∧ ∀ b cs, b < h.length → ((f.of h)[b]? = some (.box cs) ↔ h[b]? = some (.box cs)) := by
  have add : ∀ x : Blk, h.length ≤ (h ++ [x]).length ∧ ∀ b cs, b < h.length → ((h ++ [x])[b]? = some (.box cs) ↔ h[b]? = some (.box cs)) := by
    intro x
    exact ⟨by simp, fun b cs hb => by rw [List.getElem?_append_left hb]⟩
  have put : ∀ (b n : Nat) (e : TypeId) (n' : Nat) (e' : TypeId), h[b]? = some (.tok n e) →
      h.length ≤ (h.set b (.tok n' e')).length ∧ ∀ c cs, c < h.length → ((h.set b (.tok n' e'))[c]? = some (.box cs) ↔ h[c]? = some (.box cs)) := by
    intro b n e n' e' hb
    refine ⟨by simp, fun c cs hc' => ?_⟩
    by_cases he : c = b
    · subst he
      rw [List.getElem?_set_self hc', hb]
      simp
    · rw [List.getElem?_set_ne (fun h => he h.symm)]
  obtain ⟨dst, op, type, pos, after, guard⟩ := o
  cases op with
  | call c =>
    obtain ⟨callee, args, ats⟩ := c
    cases callee with
    | builtin b =>
      cases b <;> (try (simp [cls] at hc; done))
      simp only [opA] at e
      split at e
      · cases e
      · split at e
        · rename_i x y t _ _ a f' hap
          split at e
          · cases e
            unfold appendA at hap
            (repeat' split at hap) <;> first
              | (cases hap; done)
              | (cases hap; exact ⟨Nat.le_refl _, fun _ _ _ => Iff.rfl⟩)
              | (cases hap; exact add _)
              | skip
            rename_i hb hc2
            cases hap
            exact put _ _ _ _ _ hb
          · cases e
        · cases e
      · cases e
    | value f => simp [cls] at hc
    | invoke r m => simp [cls] at hc
  | alloc t =>
    simp only [opA] at e
    split at e
    · cases e; exact add _
    · cases e
  | box t x =>
    simp only [opA] at e
    split at e
    · cases e; exact add _
    · cases e
  | _ => simp [cls] at hc

/-- One step, taken apart. -/
theorem stepD_inv {lim : Nat} {ops : List Oper} {j : Nat} {s s' : St} (e : stepD P cmp call lim ops j s = some s') : ∃ o, ops[j]? = some o ∧
    ((wantedA ops o s.tmps = some true ∧ ∃ v f, opA P cmp call o s.tmps s.heap = some (.val v f) ∧ askD lim ops j o s f = true ∧ s' = ⟨setT s.tmps o.dst v, f.of s.heap, f.dirt ++ s.dirty⟩) ∨
     (wantedA ops o s.tmps = some false ∧ s' = ⟨setT s.tmps o.dst .undef, s.heap, s.dirty⟩)) := by
  unfold stepD at e
  split at e
  · cases e
  · rename_i o ho
    refine ⟨o, ho, ?_⟩
    split at e
    · rename_i hw
      split at e
      · rename_i v f hv
        split at e
        · rename_i ha; cases e; exact .inl ⟨hw, v, f, hv, ha, rfl⟩
        · cases e
      · cases e
    · rename_i hw; cases e; exact .inr ⟨hw, rfl⟩
    · cases e

theorem askD_congr {lim : Nat} {ops : List Oper} {j : Nat} {o : Oper} {s s' : St} {f : Eff} (ht : ∀ t ∈ opTmps o.op.operands.toList, s'.tmps[t]? = s.tmps[t]?) (hl : cls o = 2 → lim ≤ s.heap.length → lim ≤ s'.heap.length)
    (h : askD lim ops j o s f = true) : askD lim ops j o s' f = true := by
  unfold askD at h ⊢
  split at h
  · rename_i hc
    split at h
    · rename_i t x ho
      have : constA x s'.tmps = constA x s.tmps := constA_congr ht (by rw [ho]; simp [Op.operands])
      rw [this]; exact h
    · cases h
  · rename_i hc
    simp only [decide_eq_true_eq] at h ⊢
    exact hl hc h
  · exact h
  · rfl
theorem askD_silent {lim : Nat} {ops : List Oper} {j : Nat} {o : Oper} {s : St} {f : Eff} (h : cls o = 0) : askD lim ops j o s f = true := by
  unfold askD; rw [h]
  rfl

theorem swap {lim : Nat} {ops : List Oper} {i j : Nat} {x y : Oper} {s s1 s2 : St} (hx : ops[i]? = some x) (hy : ops[j]? = some y) (hp : pairOk ops x y = true)
    (hsx : cls y ≠ 0 → soloOk ops i = false) (hsy : cls x ≠ 0 → soloOk ops j = false)
    (e1 : stepD P cmp call lim ops i s = some s1) (e2 : stepD P cmp call lim ops j s1 = some s2) :
    ∃ s1', stepD P cmp call lim ops j s = some s1' ∧ stepD P cmp call lim ops i s1' = some s2 := by
  unfold pairOk at hp
  simp only [Bool.and_eq_true, Bool.or_eq_true, beq_iff_eq] at hp
  obtain ⟨hin, hcl⟩ := hp
  obtain ⟨d1, d2, d3⟩ := indep_dst hin
  obtain ⟨x', hx', c1⟩ := stepD_inv e1
  rw [hx] at hx'; cases hx'
  obtain ⟨y', hy', c2⟩ := stepD_inv e2
  rw [hy] at hy'; cases hy'
  have rx : ∀ {u : AVal} {ts : List AVal}, ∀ t ∈ readsOf ops x, (setT ts y.dst u)[t]? = ts[t]? := fun t ht => setT_get fun d hd => d2 d hd t ht
  have ry : ∀ {u : AVal} {ts : List AVal}, ∀ t ∈ readsOf ops y, (setT ts x.dst u)[t]? = ts[t]? := fun t ht => setT_get fun d hd => d1 d hd t ht
  have sub : ∀ o : Oper, ∀ t ∈ opTmps o.op.operands.toList, t ∈ readsOf ops o := fun o t ht => by simp [readsOf, ht]
  have comm : ∀ {ts : List AVal} {u v : AVal}, setT (setT ts x.dst u) y.dst v = setT (setT ts y.dst v) x.dst u := setT_comm d3
  rcases c1 with ⟨wx, vx, fx, ox, ax, rfl⟩ | ⟨wx, rfl⟩
  · rcases c2 with ⟨wy, vy, fy, oy, ay, rfl⟩ | ⟨wy, rfl⟩
    · -- both are wanted
      simp only at wy oy ay
      rw [wantedA_congr ry] at wy
      rw [opA_congr (fun t ht => ry t (sub y t ht))] at oy
      -- y at the heap of s, x behind it
      have key : opA P cmp call y s.tmps s.heap = some (.val vy fy) ∧ opA P cmp call x s.tmps (fy.of s.heap) = some (.val vx fx) ∧ fx.of (fy.of s.heap) = fy.of (fx.of s.heap) ∧
          fx.dirt ++ (fy.dirt ++ s.dirty) = fy.dirt ++ (fx.dirt ++ s.dirty) ∧ askD lim ops j y s fy = true ∧ askD lim ops i x ⟨s.tmps, fy.of s.heap, s.dirty⟩ fx = true := by
        have ay' : ∀ (hl : cls y = 2 → lim ≤ (fx.of s.heap).length → lim ≤ s.heap.length), askD lim ops j y s fy = true := fun hl =>
          askD_congr (s := ⟨setT s.tmps x.dst vx, fx.of s.heap, fx.dirt ++ s.dirty⟩) (fun t ht => (ry t (sub y t ht)).symm) hl ay
        by_cases hx0 : cls x = 0
        · obtain ⟨h1, v, hv⟩ := opA_silent hx0 ox
          cases hv
          exact ⟨oy, h1 _, rfl, rfl, ay' (fun _ h => h), askD_silent hx0⟩
        by_cases hy0 : cls y = 0
        · obtain ⟨h1, v, hv⟩ := opA_silent hy0 oy
          cases hv
          exact ⟨h1 _, ox, rfl, rfl, askD_silent hy0, ax⟩
        have same4 : ∀ (o : Oper) (k : Nat) (s0 : St) (v : AVal) (f : Eff) (h0 : AHeap), cls o = 1 ∨ cls o = 4 → soloOk ops k = false → opA P cmp call o s.tmps h0 = some (.val v f) → askD lim ops k o s0 f = true → f = .same := by
          intro o k s0 v f h0 hc hs ho ha
          rcases hc with hc | hc
          · obtain ⟨⟨v', hv'⟩, _⟩ := opA_load hc ho
            cases hv'; rfl
          · unfold askD at ha
            rw [hc] at ha
            simp only [hs, Bool.or_false] at ha
            cases f with
            | same => rfl
            | heap => simp [Eff.isSame] at ha
        rcases hcl with (((hc | hc) | ⟨hc1, hc2⟩) | ⟨hc1, hc2⟩) | ⟨hc1, hc2⟩
        · exact absurd hc hx0
        · exact absurd hc hy0
        · have hfx := same4 x i s vx fx s.heap hc1 (hsx hy0) ox ax
          subst hfx
          have hfy := same4 y j _ vy fy _ hc2 (hsy hx0) oy ay
          subst hfy
          exact ⟨oy, ox, rfl, rfl, ay' (fun _ h => h), ax⟩
        · -- x reads, y makes
          obtain ⟨⟨v', hv'⟩, t, q, hop, hre⟩ := opA_load hc1 ox
          cases hv'
          have hm := opA_makes hc2 oy
          refine ⟨oy, hre _ (fun b off cs hb hbox => (hm.2 b cs (List.getElem?_eq_some_iff.1 hbox).1).2 hbox), rfl, rfl, ay' (fun _ h => h), ?_⟩
          exact askD_congr (s := s) (fun t ht => rfl) (fun h2 => by rw [hc1] at h2; cases h2) ax
        · -- x makes, y reads
          obtain ⟨⟨v', hv'⟩, t, q, hop, hre⟩ := opA_load hc2 oy
          cases hv'
          have hm := opA_makes hc1 ox
          have hlim : lim ≤ s.heap.length := by
            unfold askD at ax; rw [hc1] at ax; simpa using ax
          have hay := ay' (fun h2 => by rw [hc2] at h2; cases h2)
          refine ⟨hre _ (fun b off cs hb hbox => ?_), ox, rfl, rfl, hay, ax⟩
          have hb' : b < lim := by
            unfold askD at hay; rw [hc2, hop] at hay
            simpa [hb] using hay
          exact (hm.2 b cs (by omega)).1 hbox
      obtain ⟨k1, k2, k3, k4, k5, k6⟩ := key
      refine ⟨⟨setT s.tmps y.dst vy, fy.of s.heap, fy.dirt ++ s.dirty⟩, ?_, ?_⟩
      · unfold stepD; simp only [hy, wy, k1, k5, if_true]
      · unfold stepD
        simp only [hx, wantedA_congr rx, wx, opA_congr (fun t ht => rx t (sub x t ht)), k2]
        rw [if_pos (askD_congr (s := ⟨s.tmps, fy.of s.heap, s.dirty⟩) (s' := ⟨setT s.tmps y.dst vy, fy.of s.heap, fy.dirt ++ s.dirty⟩) (fun t ht => rx t (sub x t ht)) (fun _ h => h) k6)]
        rw [k3, k4, comm]
    · simp only at wy
      rw [wantedA_congr ry] at wy
      refine ⟨⟨setT s.tmps y.dst .undef, s.heap, s.dirty⟩, ?_, ?_⟩
      · unfold stepD; simp only [hy, wy]
      · unfold stepD
        simp only [hx, wantedA_congr rx, wx, opA_congr (fun t ht => rx t (sub x t ht)), ox]
        rw [if_pos (askD_congr (s := s) (s' := ⟨setT s.tmps y.dst .undef, s.heap, s.dirty⟩) (fun t ht => rx t (sub x t ht)) (fun _ h => h) ax), comm]
  · rcases c2 with ⟨wy, vy, fy, oy, ay, rfl⟩ | ⟨wy, rfl⟩
    · simp only at wy oy ay
      rw [wantedA_congr ry] at wy
      rw [opA_congr (fun t ht => ry t (sub y t ht))] at oy
      refine ⟨⟨setT s.tmps y.dst vy, fy.of s.heap, fy.dirt ++ s.dirty⟩, ?_, ?_⟩
      · unfold stepD
        simp only [hy, wy, oy]
        rw [if_pos (askD_congr (s := ⟨setT s.tmps x.dst .undef, s.heap, s.dirty⟩) (s' := s) (fun t ht => (ry t (sub y t ht)).symm) (fun _ h => h) ay)]
      · unfold stepD
        simp only [hx, wantedA_congr rx, wx, comm]
    · simp only at wy
      rw [wantedA_congr ry] at wy
      refine ⟨⟨setT s.tmps y.dst .undef, s.heap, s.dirty⟩, ?_, ?_⟩
      · unfold stepD; simp only [hy, wy]
      · unfold stepD
        simp only [hx, wantedA_congr rx, wx, comm]
end Go.Ab
