/- Soundness of regions. -/
import Derived.Test.YtnmejllfnndcbaaGreatDoorAbOp9
import Derived.Orders
set_option linter.unusedSimpArgs false
set_option linter.unusedVariables false
namespace Go.Ab
variable {P : Program}

theorem wantedA_sound {S : Sh} {ops : Array Oper} {o : Oper} {ts : List AVal} {a : Act} {b : Bool} (ht : VRl S ts a.tmps.toList) (e : wantedA ops.toList o ts = some b) :
    Region.wanted o (yielded ops a.tmps) = b := by
  unfold wantedA at e
  unfold Region.wanted
  split at e
  · rename_i hg; cases e; simp [hg]
  · rename_i j want hg
    simp only [hg]
    split at e
    · rename_i oj hj
      rw [Array.getElem?_toList] at hj
      split at e
      · rename_i d hd
        split at e
        · rename_i c hc
          cases e
          obtain ⟨v, hv, hr⟩ := ht.get hc
          rw [Array.getElem?_toList] at hv
          cases hr
          simp [yielded, hj, hd, hv]
        · rename_i hc
          cases e
          obtain ⟨v, hv, hr⟩ := ht.get hc
          rw [Array.getElem?_toList] at hv
          cases hr
          simp [yielded, hj, hd, hv]
        · cases e
      · cases e
    · cases e

theorem put_rel {S : Sh} {ts : List AVal} {a : Act} {u : AVal} {v : Value} (ht : VRl S ts a.tmps.toList) (hv : VR S u v) (dst : Option Tmp) : VRl S (setT ts dst u) (a.put dst v).tmps.toList := by
  cases dst with
  | none => exact ht
  | some d => simpa [setT, Act.put] using ht.set d hv
theorem put_defers (a : Act) (dst : Option Tmp) (v : Value) : (a.put dst v).defers = a.defers := by cases dst <;> rfl

/-- What the code behind may count on. -/
def Post (P : Program) [Tabs P] (S : Sh) (w : World) (ds : List Deferred) (Q : Exit → Act → World → Prop) (x : AEx × St) : Prop :=
  ∀ S' w' a', Step P S w S' x.2.heap w' → VRl S' x.2.tmps a'.tmps.toList → a'.defers = ds →
    match x.1 with
    | .normal => Q .normal a' w'
    | .exit id => Q (.exit id) a' w'
    | .ret => Q .ret a' w'
    | .pan u => ∀ v, VR S' u v → Q (.panic [{ v, recovered := false }]) a' w'

theorem Post.later [Tabs P] {S S1 : Sh} {w w1 : World} {h1 : AHeap} {ds : List Deferred} {Q : Exit → Act → World → Prop} {x : AEx × St} (k : Post P S w ds Q x) (st : Step P S w S1 h1 w1) : Post P S1 w1 ds Q x :=
  fun S' w' a' h ht hd => k S' w' a' (st.trans h) ht hd

theorem opsA_sound [Tabs P] {cmp : List TypeId} (hcmp : ∀ t ∈ cmp, cmpOk P t = true) {call : Call} (hcall : CallOk P call) (hkeep : KeepCall call) (ops : Array Oper) {Q : Exit → Act → World → Prop} {ds : List Deferred} :
    ∀ (m n : Nat) (s : St) (x : AEx × St) (a : Act) (S : Sh) (w : World), n + m = ops.size → WR P S s.heap w → VRl S s.tmps a.tmps.toList → a.defers = ds →
      opsA P cmp call ops.toList (ops.toList.drop n) s = some x → Post P S w ds Q x → wpOps P ops Q (List.range' n m) a w
  | 0, n, s, x, a, S, w, hn, k, ht, hd, e, hp => by
    rw [List.drop_eq_nil_of_le (by simp; omega)] at e
    cases e
    exact hp S w a (.refl k) ht hd
  | m + 1, n, s, x, a, S, w, hn, k, ht, hd, e, hp => by
    have hlt : n < ops.size := by omega
    have hg : ops[n]? = some ops[n] := Array.getElem?_eq_getElem hlt
    rw [show ops.toList.drop n = ops[n] :: ops.toList.drop (n + 1) by
      rw [← Array.getElem_toList (h := hlt)]; exact (List.drop_eq_getElem_cons (by simpa using hlt))] at e
    rw [List.range'_succ]
    unfold wpOps
    simp only [hg]
    unfold opsA at e
    split at e
    · rename_i hw
      rw [if_pos (wantedA_sound ht hw)]
      refine .inl ?_
      split at e
      · rename_i v f ho
        refine opA_sound hcmp hcall hkeep k ht ho ?_
        intro v' S' w' st hv
        exact opsA_sound hcmp hcall hkeep ops m (n + 1) _ x _ S' w' (by omega) st.wr (put_rel (ht.ext st.ext) hv _) (by rw [put_defers]; exact hd) e (hp.later st)
      · rename_i v f ho
        cases e
        refine opA_sound hcmp hcall hkeep k ht ho ?_
        intro v' S' w' st hv
        exact hp S' w' a st (ht.ext st.ext) hd v' hv
      · cases e
    · rename_i hw
      rw [if_neg (by rw [wantedA_sound ht hw]; simp)]
      exact opsA_sound hcmp hcall hkeep ops m (n + 1) ⟨setT s.tmps ops[n].dst .undef, s.heap, s.dirty⟩ x _ S w (by omega) k (put_rel ht .undef _) (by rw [put_defers]; exact hd) e hp
    · cases e

theorem region_sound [Tabs P] {cmp : List TypeId} (hcmp : ∀ t ∈ cmp, cmpOk P t = true) {call : Call} (hcall : CallOk P call) (hkeep : KeepCall call) {id : Nat} {ops : Array Oper} {Q : Exit → Act → World → Prop} {ds : List Deferred}
    {s : St} {x : AEx × St} {a : Act} {S : Sh} {w : World} (k : WR P S s.heap w) (ht : VRl S s.tmps a.tmps.toList) (hd : a.defers = ds)
    (e : opsA P cmp call ops.toList ops.toList s = some x) (hp : Post P S w ds Q x) : (Code.region id ops false).wp P Q a w := by
  refine wp_region ?_
  have := opsA_sound hcmp hcall hkeep ops (Q := Q) (ds := ds) ops.size 0 s x a S w (by omega) k ht hd (by simpa using e) hp
  rwa [List.range_eq_range']
end Go.Ab
/- Regions whose order is open: two neighbours may change places. -/
namespace Go.Ab
variable {P : Program} {cmp : List TypeId} {call : Call}

theorem mem_opTmps {l : List Operand} {t : Tmp} (h : Operand.tmp t ∈ l) : t ∈ opTmps l := by
  unfold opTmps
  exact List.mem_filterMap.2 ⟨_, h, rfl⟩
theorem constA_congr {ts ts' : List AVal} {l : List Operand} (h : ∀ t ∈ opTmps l, ts'[t]? = ts[t]?) {x : Operand} (hx : x ∈ l) : constA x ts' = constA x ts := by
  cases x with
  | tmp t => exact h t (mem_opTmps hx)
  | const v => rfl
  | global g => rfl
  | func f => rfl
theorem argsA_congr {ts ts' : List AVal} {l : List Operand} (h : ∀ t ∈ opTmps l, ts'[t]? = ts[t]?) : ∀ {xs : List Operand}, (∀ x ∈ xs, x ∈ l) → argsA ts' xs = argsA ts xs
  | [], _ => rfl
  | x :: xs, hx => by
    simp only [argsA, constA_congr h (hx x (by simp)), argsA_congr (xs := xs) h (fun y hy => hx y (by simp [hy]))]
theorem partsA_congr {ts ts' : List AVal} {l : List Operand} (h : ∀ t ∈ opTmps l, ts'[t]? = ts[t]?) : ∀ {xs : List (Nat × Operand)}, (∀ x ∈ xs, x.2 ∈ l) → partsA ts' xs = partsA ts xs
  | [], _ => rfl
  | (i, x) :: xs, hx => by
    simp only [partsA, constA_congr h (hx (i, x) (by simp)), partsA_congr (xs := xs) h (fun y hy => hx y (by simp [hy]))]
theorem optA_congr {ts ts' : List AVal} {l : List Operand} (h : ∀ t ∈ opTmps l, ts'[t]? = ts[t]?) {x : Option Operand} (hx : ∀ y, x = some y → y ∈ l) : optA ts' x = optA ts x := by
  cases x with
  | none => rfl
  | some y => simp only [optA, constA_congr h (hx y rfl)]

theorem opA_congr {o : Oper} {ts ts' : List AVal} {h : AHeap} (hc : ∀ t ∈ opTmps o.op.operands.toList, ts'[t]? = ts[t]?) : opA P cmp call o ts' h = opA P cmp call o ts h := by
  obtain ⟨dst, op, type, pos, after, guard⟩ := o
  cases op with
  | makeFunc fn first cap =>
    have h1 : argsA ts' first.toList = argsA ts first.toList := argsA_congr hc (fun x hx => by simp [Op.operands] at hx ⊢; exact .inl hx)
    have h2 : argsA ts' cap.toList = argsA ts cap.toList := argsA_congr hc (fun x hx => by simp [Op.operands] at hx ⊢; exact .inr hx)
    cases fn <;> simp only [opA, h1, h2]
  | build t ps =>
    have h1 : partsA ts' ps.toList = partsA ts ps.toList := partsA_congr hc (fun x hx => by simp only [Op.operands, List.mem_map]; exact ⟨x, hx, rfl⟩)
    simp only [opA, h1]
  | buildSlice t n ps =>
    have h1 : partsA ts' ps.toList = partsA ts ps.toList := partsA_congr hc (fun x hx => by simp only [Op.operands, List.mem_map]; exact ⟨x, hx, rfl⟩)
    simp only [opA, h1]
  | call c =>
    obtain ⟨callee, args, ats⟩ := c
    have h1 : argsA ts' args.toList = argsA ts args.toList := argsA_congr hc (fun x hx => by simp [Op.operands, Call.operands] at hx ⊢; exact .inr hx)
    cases callee with
    | value f =>
      have h2 : constA f ts' = constA f ts := constA_congr hc (by simp [Op.operands, Call.operands])
      simp only [opA, h1, h2]
    | invoke r m => simp only [opA]
    | builtin b => simp only [opA, h1]
  | slice t x lo hi mx =>
    have h1 : constA x ts' = constA x ts := constA_congr hc (by simp [Op.operands])
    have h2 : optA ts' lo = optA ts lo := optA_congr hc (fun y hy => by subst hy; simp [Op.operands])
    have h3 : optA ts' hi = optA ts hi := optA_congr hc (fun y hy => by subst hy; simp [Op.operands])
    have h4 : optA ts' mx = optA ts mx := optA_congr hc (fun y hy => by subst hy; simp [Op.operands])
    simp only [opA, h1, h2, h3, h4]
  | pick c a b =>
    have h1 : constA c ts' = constA c ts := constA_congr hc (by simp [Op.operands])
    have h2 : constA a ts' = constA a ts := constA_congr hc (by simp [Op.operands])
    have h3 : constA b ts' = constA b ts := constA_congr hc (by simp [Op.operands])
    simp only [opA, h1, h2, h3]
  | store t a v =>
    have h1 : constA a ts' = constA a ts := constA_congr hc (by simp [Op.operands])
    have h2 : constA v ts' = constA v ts := constA_congr hc (by simp [Op.operands])
    simp only [opA, h1, h2]
  | binOp op t x y t2 =>
    have h1 : constA x ts' = constA x ts := constA_congr hc (by simp [Op.operands])
    have h2 : constA y ts' = constA y ts := constA_congr hc (by simp [Op.operands])
    simp only [opA, h1, h2]
  | indexAddr t x i =>
    have h1 : constA x ts' = constA x ts := constA_congr hc (by simp [Op.operands])
    have h2 : constA i ts' = constA i ts := constA_congr hc (by simp [Op.operands])
    simp only [opA, h1, h2]
  | index t x i =>
    have h1 : constA x ts' = constA x ts := constA_congr hc (by simp [Op.operands])
    have h2 : constA i ts' = constA i ts := constA_congr hc (by simp [Op.operands])
    simp only [opA, h1, h2]
  | move x => simp only [opA, constA_congr (x := x) hc (by simp [Op.operands])]
  | assign x => simp only [opA, constA_congr (x := x) hc (by simp [Op.operands])]
  | box t x => simp only [opA, constA_congr (x := x) hc (by simp [Op.operands])]
  | load t x => simp only [opA, constA_congr (x := x) hc (by simp [Op.operands])]
  | nilCheck x => simp only [opA, constA_congr (x := x) hc (by simp [Op.operands])]
  | unOp op t x => simp only [opA, constA_congr (x := x) hc (by simp [Op.operands])]
  | convert s d x => simp only [opA, constA_congr (x := x) hc (by simp [Op.operands])]
  | makeInterface t x => simp only [opA, constA_congr (x := x) hc (by simp [Op.operands])]
  | fieldAddr s x f => simp only [opA, constA_congr (x := x) hc (by simp [Op.operands])]
  | field t x f => simp only [opA, constA_congr (x := x) hc (by simp [Op.operands])]
  | typeAssert x a b c => simp only [opA, constA_congr (x := x) hc (by simp [Op.operands])]
  | extract x i => simp only [opA, constA_congr (x := x) hc (by simp [Op.operands])]
  | panic x => simp only [opA, constA_congr (x := x) hc (by simp [Op.operands])]
  | _ => simp only [opA]

/-- An operation that does nothing with memory. -/
theorem opA_silent {o : Oper} {ts : List AVal} {h : AHeap} {r : OR} (hc : cls o = 0) (e : opA P cmp call o ts h = some r) : (∀ h', opA P cmp call o ts h' = some r) ∧ ∃ v, r = .val v .same := by
  have V : ∀ {x : Option AVal} {r : OR}, (match x with | some a => some (OR.val a .same) | none => none) = some r → ∃ v, r = .val v .same := by
    intro x r hx
    cases x with
    | none => cases hx
    | some a => cases hx; exact ⟨a, rfl⟩
  obtain ⟨dst, op, type, pos, after, guard⟩ := o
  cases op with
  | call c =>
    obtain ⟨callee, args, ats⟩ := c
    cases callee with
    | builtin b =>
      cases b <;> (try (simp [cls] at hc; done)) <;>
      · simp only [opA] at e ⊢
        refine ⟨fun h' => ?_, ?_⟩
        · rw [← e]
        · (repeat' split at e) <;> first | (cases e; exact ⟨_, rfl⟩) | (cases e; done) | exact V e
    | value f => simp [cls] at hc
    | invoke r m => simp [opA] at e
  | makeFunc fn first cap =>
    cases fn <;> simp only [opA] at e ⊢ <;> first
      | (cases e; done)
      | (refine ⟨fun h' => by rw [← e], ?_⟩; (repeat' split at e) <;> first | (cases e; exact ⟨_, rfl⟩) | (cases e; done))
  | alloc => simp [cls] at hc
  | box => simp [cls] at hc
  | load => simp [cls] at hc
  | store => simp [cls] at hc
  | panic => simp [cls] at hc
  | _ =>
    simp only [opA] at e ⊢ <;> first
      | (cases e; done)
      | (refine ⟨fun h' => by rw [← e], ?_⟩; (repeat' split at e) <;> first | (cases e; exact ⟨_, rfl⟩) | (cases e; done) | exact V e)
end Go.Ab
/- Regions whose order is open: any order gives what the order of the text gives. -/
namespace Go.Ab
variable {P : Program} {cmp : List TypeId} {call : Call}

theorem setT_get {ts : List AVal} {dst : Option Tmp} {v : AVal} {t : Tmp} (h : ∀ d, dst = some d → d ≠ t) : (setT ts dst v)[t]? = ts[t]? := by
  cases dst with
  | none => rfl
  | some d => exact List.getElem?_set_ne (h d rfl)
theorem setT_comm {ts : List AVal} {x y : Option Tmp} {u v : AVal} (h : ∀ d, x = some d → y ≠ some d) : setT (setT ts x u) y v = setT (setT ts y v) x u := by
  cases x with
  | none => rfl
  | some d => cases y with
    | none => rfl
    | some d' =>
      have : d ≠ d' := fun e => h d rfl (by rw [e])
      exact List.set_comm _ _ this

theorem wantedA_congr {ops : List Oper} {o : Oper} {ts ts' : List AVal} (h : ∀ t ∈ readsOf ops o, ts'[t]? = ts[t]?) : wantedA ops o ts' = wantedA ops o ts := by
  unfold wantedA
  split
  · rfl
  · rename_i j want hg
    split
    · rename_i oj hj
      split
      · rename_i d hd
        rw [h d (by simp [readsOf, hg, hj, hd])]
      · rfl
    · rfl

theorem indep_dst {ops : List Oper} {x y : Oper} (h : indep ops x y = true) :
    (∀ d, x.dst = some d → ∀ t ∈ readsOf ops y, d ≠ t) ∧ (∀ d, y.dst = some d → ∀ t ∈ readsOf ops x, d ≠ t) ∧ (∀ d, x.dst = some d → y.dst ≠ some d) := by
  unfold indep at h
  simp only [Bool.and_eq_true] at h
  refine ⟨fun d hd t ht e => ?_, fun d hd t ht e => ?_, fun d hd e => ?_⟩
  · have := h.1; simp only [hd, Bool.and_eq_true, Bool.not_eq_true'] at this
    subst e
    have h2 := this.1
    rw [List.contains_eq_mem] at h2
    simp [ht] at h2
  · have := h.2; simp only [hd, Bool.not_eq_true'] at this
    subst e
    rw [List.contains_eq_mem] at this
    simp [ht] at this
  · have := h.1; simp only [hd, Bool.and_eq_true, Bool.not_eq_true'] at this
    rw [e] at this; simp at this

theorem opA_load {o : Oper} {ts : List AVal} {h : AHeap} {r : OR} (hc : cls o = 1) (e : opA P cmp call o ts h = some r) : (∃ v, r = .val v .same) ∧ ∃ t x, o.op = .load t x ∧
    ∀ h' : AHeap, (∀ b off cs, constA x ts = some (.ptr b off) → h[b]? = some (.box cs) → h'[b]? = some (.box cs)) → opA P cmp call o ts h' = some r := by
  obtain ⟨dst, op, type, pos, after, guard⟩ := o
  cases op with
  | call c =>
    obtain ⟨callee, args, ats⟩ := c
    cases callee with
    | builtin b => cases b <;> simp [cls] at hc
    | value f => simp [cls] at hc
    | invoke r m => simp [cls] at hc
  | load t x =>
    simp only [opA] at e ⊢
    split at e
    · rename_i p hp
      split at e
      · rename_i u hu
        cases e
        refine ⟨⟨u, rfl⟩, t, x, rfl, fun h' hh => ?_⟩
        have : loadA P h' t p = some u := by
          unfold loadA at hu ⊢
          cases p <;> simp only at hu ⊢ <;> first | exact hu | skip
          rename_i b off
          split at hu
          · rename_i cs hb; rw [hh b off cs hp hb]; exact hu
          · cases hu
        simp only [this]
      · cases e
    · cases e
  | _ => simp [cls] at hc

theorem opA_makes {o : Oper} {ts : List AVal} {h : AHeap} {v : AVal} {f : Eff} (hc : cls o = 2) (e : opA P cmp call o ts h = some (.val v f)) :
    h.length ≤ (f.of h).length ∧ ∀ b cs, b < h.length → ((f.of h)[b]? = some (.box cs) ↔ h[b]? = some (.box cs)) := by
  have add : ∀ x : Blk, h.length ≤ (h ++ [x]).length ∧ ∀ b cs, b < h.length → ((h ++ [x])[b]? = some (.box cs) ↔ h[b]? = some (.box cs)) := by
    intro x
    exact ⟨by simp, fun b cs hb => by rw [List.getElem?_append_left hb]⟩
  have put : ∀ (b n : Nat) (e : TypeId) (n' : Nat) (e' : TypeId), h[b]? = some (.tok n e) →
      h.length ≤ (h.set b (.tok n' e')).length ∧ ∀ c cs, c < h.length → ((h.set b (.tok n' e'))[c]? = some (.box cs) ↔ h[c]? = some (.box cs)) := by
    intro b n e n' e' hb
    refine ⟨by simp, fun c cs hc' => ?_⟩
    by_cases he : c = b
    · subst he
      rw [List.getElem?_set_self hc', hb]
      simp
    · rw [List.getElem?_set_ne (fun h => he h.symm)]
  obtain ⟨dst, op, type, pos, after, guard⟩ := o
  cases op with
  | call c =>
    obtain ⟨callee, args, ats⟩ := c
    cases callee with
    | builtin b =>
      cases b <;> (try (simp [cls] at hc; done))
      simp only [opA] at e
      split at e
      · cases e
      · split at e
        · rename_i x y t _ _ a f' hap
          split at e
          · cases e
            unfold appendA at hap
            (repeat' split at hap) <;> first
              | (cases hap; done)
              | (cases hap; exact ⟨Nat.le_refl _, fun _ _ _ => Iff.rfl⟩)
              | (cases hap; exact add _)
              | skip
            rename_i hb hc2
            cases hap
            exact put _ _ _ _ _ hb
          · cases e
        · cases e
      · cases e
    | value f => simp [cls] at hc
    | invoke r m => simp [cls] at hc
  | alloc t =>
    simp only [opA] at e
    split at e
    · cases e; exact add _
    · cases e
  | box t x =>
    simp only [opA] at e
    split at e
    · cases e; exact add _
    · cases e
  | _ => simp [cls] at hc

/-- One step, taken apart. -/
theorem stepD_inv {lim : Nat} {ops : List Oper} {j : Nat} {s s' : St} (e : stepD P cmp call lim ops j s = some s') : ∃ o, ops[j]? = some o ∧
    ((wantedA ops o s.tmps = some true ∧ ∃ v f, opA P cmp call o s.tmps s.heap = some (.val v f) ∧ askD lim ops j o s f = true ∧ s' = ⟨setT s.tmps o.dst v, f.of s.heap, f.dirt ++ s.dirty⟩) ∨
     (wantedA ops o s.tmps = some false ∧ s' = ⟨setT s.tmps o.dst .undef, s.heap, s.dirty⟩)) := by
  unfold stepD at e
  split at e
  · cases e
  · rename_i o ho
    refine ⟨o, ho, ?_⟩
    split at e
    · rename_i hw
      split at e
      · rename_i v f hv
        split at e
        · rename_i ha; cases e; exact .inl ⟨hw, v, f, hv, ha, rfl⟩
        · cases e
      · cases e
    · rename_i hw; cases e; exact .inr ⟨hw, rfl⟩
    · cases e

theorem askD_congr {lim : Nat} {ops : List Oper} {j : Nat} {o : Oper} {s s' : St} {f : Eff} (ht : ∀ t ∈ opTmps o.op.operands.toList, s'.tmps[t]? = s.tmps[t]?) (hl : cls o = 2 → lim ≤ s.heap.length → lim ≤ s'.heap.length)
    (h : askD lim ops j o s f = true) : askD lim ops j o s' f = true := by
  unfold askD at h ⊢
  split at h
  · rename_i hc
    split at h
    · rename_i t x ho
      have : constA x s'.tmps = constA x s.tmps := constA_congr ht (by rw [ho]; simp [Op.operands])
      rw [this]; exact h
    · cases h
  · rename_i hc
    simp only [decide_eq_true_eq] at h ⊢
    exact hl hc h
  · exact h
  · rfl
theorem askD_silent {lim : Nat} {ops : List Oper} {j : Nat} {o : Oper} {s : St} {f : Eff} (h : cls o = 0) : askD lim ops j o s f = true := by
  unfold askD; rw [h]
  rfl

theorem swap {lim : Nat} {ops : List Oper} {i j : Nat} {x y : Oper} {s s1 s2 : St} (hx : ops[i]? = some x) (hy : ops[j]? = some y) (hp : pairOk ops x y = true)
    (hsx : cls y ≠ 0 → soloOk ops i = false) (hsy : cls x ≠ 0 → soloOk ops j = false)
    (e1 : stepD P cmp call lim ops i s = some s1) (e2 : stepD P cmp call lim ops j s1 = some s2) :
    ∃ s1', stepD P cmp call lim ops j s = some s1' ∧ stepD P cmp call lim ops i s1' = some s2 := by
  unfold pairOk at hp
  simp only [Bool.and_eq_true, Bool.or_eq_true, beq_iff_eq] at hp
  obtain ⟨hin, hcl⟩ := hp
  obtain ⟨d1, d2, d3⟩ := indep_dst hin
  obtain ⟨x', hx', c1⟩ := stepD_inv e1
  rw [hx] at hx'; cases hx'
  obtain ⟨y', hy', c2⟩ := stepD_inv e2
  rw [hy] at hy'; cases hy'
  have rx : ∀ {u : AVal} {ts : List AVal}, ∀ t ∈ readsOf ops x, (setT ts y.dst u)[t]? = ts[t]? := fun t ht => setT_get fun d hd => d2 d hd t ht
  have ry : ∀ {u : AVal} {ts : List AVal}, ∀ t ∈ readsOf ops y, (setT ts x.dst u)[t]? = ts[t]? := fun t ht => setT_get fun d hd => d1 d hd t ht
  have sub : ∀ o : Oper, ∀ t ∈ opTmps o.op.operands.toList, t ∈ readsOf ops o := fun o t ht => by simp [readsOf, ht]
  have comm : ∀ {ts : List AVal} {u v : AVal}, setT (setT ts x.dst u) y.dst v = setT (setT ts y.dst v) x.dst u := setT_comm d3
  rcases c1 with ⟨wx, vx, fx, ox, ax, rfl⟩ | ⟨wx, rfl⟩
  · rcases c2 with ⟨wy, vy, fy, oy, ay, rfl⟩ | ⟨wy, rfl⟩
    · -- both are wanted
      simp only at wy oy ay
      rw [wantedA_congr ry] at wy
      rw [opA_congr (fun t ht => ry t (sub y t ht))] at oy
      -- y at the heap of s, x behind it
      have key : opA P cmp call y s.tmps s.heap = some (.val vy fy) ∧ opA P cmp call x s.tmps (fy.of s.heap) = some (.val vx fx) ∧ fx.of (fy.of s.heap) = fy.of (fx.of s.heap) ∧
          fx.dirt ++ (fy.dirt ++ s.dirty) = fy.dirt ++ (fx.dirt ++ s.dirty) ∧ askD lim ops j y s fy = true ∧ askD lim ops i x ⟨s.tmps, fy.of s.heap, s.dirty⟩ fx = true := by
        have ay' : ∀ (hl : cls y = 2 → lim ≤ (fx.of s.heap).length → lim ≤ s.heap.length), askD lim ops j y s fy = true := fun hl =>
          askD_congr (s := ⟨setT s.tmps x.dst vx, fx.of s.heap, fx.dirt ++ s.dirty⟩) (fun t ht => (ry t (sub y t ht)).symm) hl ay
        by_cases hx0 : cls x = 0
        · obtain ⟨h1, v, hv⟩ := opA_silent hx0 ox
          cases hv
          exact ⟨oy, h1 _, rfl, rfl, ay' (fun _ h => h), askD_silent hx0⟩
        by_cases hy0 : cls y = 0
        · obtain ⟨h1, v, hv⟩ := opA_silent hy0 oy
          cases hv
          exact ⟨h1 _, ox, rfl, rfl, askD_silent hy0, ax⟩
        have same4 : ∀ (o : Oper) (k : Nat) (s0 : St) (v : AVal) (f : Eff) (h0 : AHeap), cls o = 1 ∨ cls o = 4 → soloOk ops k = false → opA P cmp call o s.tmps h0 = some (.val v f) → askD lim ops k o s0 f = true → f = .same := by
          intro o k s0 v f h0 hc hs ho ha
          rcases hc with hc | hc
          · obtain ⟨⟨v', hv'⟩, _⟩ := opA_load hc ho
            cases hv'; rfl
          · unfold askD at ha
            rw [hc] at ha
            simp only [hs, Bool.or_false] at ha
            cases f with
            | same => rfl
            | heap => simp [Eff.isSame] at ha
        rcases hcl with (((hc | hc) | ⟨hc1, hc2⟩) | ⟨hc1, hc2⟩) | ⟨hc1, hc2⟩
        · exact absurd hc hx0
        · exact absurd hc hy0
        · have hfx := same4 x i s vx fx s.heap hc1 (hsx hy0) ox ax
          subst hfx
          have hfy := same4 y j _ vy fy _ hc2 (hsy hx0) oy ay
          subst hfy
          exact ⟨oy, ox, rfl, rfl, ay' (fun _ h => h), ax⟩
        · -- x reads, y makes
          obtain ⟨⟨v', hv'⟩, t, q, hop, hre⟩ := opA_load hc1 ox
          cases hv'
          have hm := opA_makes hc2 oy
          refine ⟨oy, hre _ (fun b off cs hb hbox => (hm.2 b cs (List.getElem?_eq_some_iff.1 hbox).1).2 hbox), rfl, rfl, ay' (fun _ h => h), ?_⟩
          exact askD_congr (s := s) (fun t ht => rfl) (fun h2 => by rw [hc1] at h2; cases h2) ax
        · -- x makes, y reads
          obtain ⟨⟨v', hv'⟩, t, q, hop, hre⟩ := opA_load hc2 oy
          cases hv'
          have hm := opA_makes hc1 ox
          have hlim : lim ≤ s.heap.length := by
            unfold askD at ax; rw [hc1] at ax; simpa using ax
          have hay := ay' (fun h2 => by rw [hc2] at h2; cases h2)
          refine ⟨hre _ (fun b off cs hb hbox => ?_), ox, rfl, rfl, hay, ax⟩
          have hb' : b < lim := by
            unfold askD at hay; rw [hc2, hop] at hay
            simpa [hb] using hay
          exact (hm.2 b cs (by omega)).1 hbox
      obtain ⟨k1, k2, k3, k4, k5, k6⟩ := key
      refine ⟨⟨setT s.tmps y.dst vy, fy.of s.heap, fy.dirt ++ s.dirty⟩, ?_, ?_⟩
      · unfold stepD; simp only [hy, wy, k1, k5, if_true]
      · unfold stepD
        simp only [hx, wantedA_congr rx, wx, opA_congr (fun t ht => rx t (sub x t ht)), k2]
        rw [if_pos (askD_congr (s := ⟨s.tmps, fy.of s.heap, s.dirty⟩) (s' := ⟨setT s.tmps y.dst vy, fy.of s.heap, fy.dirt ++ s.dirty⟩) (fun t ht => rx t (sub x t ht)) (fun _ h => h) k6)]
        rw [k3, k4, comm]
    · simp only at wy
      rw [wantedA_congr ry] at wy
      refine ⟨⟨setT s.tmps y.dst .undef, s.heap, s.dirty⟩, ?_, ?_⟩
      · unfold stepD; simp only [hy, wy]
      · unfold stepD
        simp only [hx, wantedA_congr rx, wx, opA_congr (fun t ht => rx t (sub x t ht)), ox]
        rw [if_pos (askD_congr (s := s) (s' := ⟨setT s.tmps y.dst .undef, s.heap, s.dirty⟩) (fun t ht => rx t (sub x t ht)) (fun _ h => h) ax), comm]
  · rcases c2 with ⟨wy, vy, fy, oy, ay, rfl⟩ | ⟨wy, rfl⟩
    · simp only at wy oy ay
      rw [wantedA_congr ry] at wy
      rw [opA_congr (fun t ht => ry t (sub y t ht))] at oy
      refine ⟨⟨setT s.tmps y.dst vy, fy.of s.heap, fy.dirt ++ s.dirty⟩, ?_, ?_⟩
      · unfold stepD
        simp only [hy, wy, oy]
        rw [if_pos (askD_congr (s := ⟨setT s.tmps x.dst .undef, s.heap, s.dirty⟩) (s' := s) (fun t ht => (ry t (sub y t ht)).symm) (fun _ h => h) ay)]
      · unfold stepD
        simp only [hx, wantedA_congr rx, wx, comm]
    · simp only at wy
      rw [wantedA_congr ry] at wy
      refine ⟨⟨setT s.tmps y.dst .undef, s.heap, s.dirty⟩, ?_, ?_⟩
      · unfold stepD; simp only [hy, wy]
      · unfold stepD
        simp only [hx, wantedA_congr rx, wx, comm]
end Go.Ab
/- Regions whose order is open: soundness. -/
namespace Go.Ab
variable {P : Program} {cmp : List TypeId} {call : Call}

def preds (o : Oper) : List Nat := (o.after.toList.filter (Go.Region.binds .any)).map fun e => e.on

theorem ancs_length : ∀ (ops : List Oper) (acc : List (List Nat)), (ancs acc ops).length = acc.length + ops.length
  | [], acc => rfl
  | o :: r, acc => by simp only [ancs, ancs_length r, List.length_append, List.length_cons, List.length_nil]; omega
theorem ancs_old : ∀ (ops : List Oper) (acc : List (List Nat)) (j : Nat), j < acc.length → (ancs acc ops)[j]? = acc[j]?
  | [], acc, j, h => rfl
  | o :: r, acc, j, h => by
    simp only [ancs]
    rw [ancs_old r _ j (by simp; omega), List.getElem?_append_left h]
/-- Whoever stands in j's list stands in a direct one's or is one. -/
theorem ancs_mem : ∀ (ops : List Oper) (acc : List (List Nat)) (j : Nat) (o : Oper), ops[j]? = some o → (∀ x ∈ preds o, x < acc.length + j) →
    ∀ x ∈ (ancs acc ops).getD (acc.length + j) [], x ∈ preds o ∨ ∃ p ∈ preds o, x ∈ (ancs acc ops).getD p []
  | [], acc, j, o, h, _ => by simp at h
  | q :: r, acc, 0, o, h, hp => by
    simp at h; subst h
    intro x hx
    have hlen : ∀ a : List Nat, (acc ++ [a]).length = acc.length + 1 := by simp
    simp only [ancs, Nat.add_zero, List.getD_eq_getElem?_getD] at hx ⊢
    rw [ancs_old r _ acc.length (by rw [hlen]; omega), List.getElem?_append_right (Nat.le_refl _)] at hx
    simp only [Nat.sub_self, List.getElem?_cons_zero, Option.getD_some, List.mem_eraseDups, List.mem_flatMap] at hx
    obtain ⟨e, he, hx⟩ := hx
    have hep : e.on ∈ preds q := by simp only [preds, List.mem_map]; exact ⟨e, he, rfl⟩
    rcases List.mem_cons.1 hx with rfl | hx
    · exact .inl hep
    · refine .inr ⟨e.on, hep, ?_⟩
      have := hp e.on hep
      rw [ancs_old r _ e.on (by rw [hlen]; omega), List.getElem?_append_left (by omega)]
      exact hx
  | q :: r, acc, j + 1, o, h, hp => by
    intro x hx
    simp only [ancs] at hx ⊢
    have := ancs_mem r (acc ++ [(((q.after.toList.filter (Go.Region.binds .any)).flatMap fun e => e.on :: acc.getD e.on []).eraseDups)]) j o (by simpa using h)
      (fun x hx => by have := hp x hx; simp; omega) x (by
        rw [show (acc ++ [(((q.after.toList.filter (Go.Region.binds .any)).flatMap fun e => e.on :: acc.getD e.on []).eraseDups)]).length + j = acc.length + (j + 1) by simp; omega]
        exact hx)
    exact this

theorem preds_lt {ops : List Oper} (he : edgesOk ops = true) {j : Nat} {o : Oper} (ho : ops[j]? = some o) : ∀ x ∈ preds o, x < j := by
  intro x hx
  have hj : j < ops.length := (List.getElem?_eq_some_iff.1 ho).1
  unfold edgesOk at he
  have h1 := List.all_eq_true.1 he j (by simpa using hj)
  simp only [ho] at h1
  obtain ⟨e, hem, rfl⟩ := List.mem_map.1 hx
  have := List.all_eq_true.1 h1 e (List.mem_filter.1 hem).1
  simpa using this

/-- A set that holds with each its direct ones holds all behind. -/
theorem ancs_closed {ops : List Oper} (he : edgesOk ops = true) {D : Nat → Prop} (hD : ∀ j o, ops[j]? = some o → D j → ∀ x ∈ preds o, D x) :
    ∀ (j : Nat) (o : Oper), ops[j]? = some o → (∀ x ∈ preds o, D x) → ∀ x ∈ (ancs [] ops).getD j [], D x := by
  intro j
  induction j using Nat.strongRecOn with
  | _ j ih =>
    intro o ho hp x hx
    have hm := ancs_mem ops [] j o ho (fun x hx => by simpa using preds_lt he ho x hx) x (by simpa using hx)
    rcases hm with hm | ⟨p, hpm, hx'⟩
    · exact hp x hm
    · have hlt := preds_lt he ho p hpm
      have hpl : p < ops.length := Nat.lt_trans hlt (List.getElem?_eq_some_iff.1 ho).1
      have hop := List.getElem?_eq_getElem hpl
      exact ih p hlt ops[p] hop (hD p _ hop (hp p hpm)) x hx'
theorem ancs_lt {ops : List Oper} (he : edgesOk ops = true) {j : Nat} {o : Oper} (ho : ops[j]? = some o) : ∀ x ∈ (ancs [] ops).getD j [], x < j := by
  intro x hx
  exact ancs_closed he (D := fun x => x < j) (fun i o' hi hij x hx => Nat.lt_trans (preds_lt he hi x hx) hij) j o ho (fun x hx => preds_lt he ho x hx) x hx

theorem orderOk_pair {ops : List Oper} (h : orderOk ops = true) {i j : Nat} (hij : i < j) {x y : Oper} (hx : ops[i]? = some x) (hy : ops[j]? = some y) (hn : i ∉ (ancs [] ops).getD j []) : pairOk ops x y = true := by
  have hj : j < ops.length := (List.getElem?_eq_some_iff.1 hy).1
  unfold orderOk at h
  have h1 := List.all_eq_true.1 h j (by simpa using hj)
  have h2 := List.all_eq_true.1 h1 i (by simpa using hij)
  simp only [Bool.or_eq_true, List.contains_eq_mem, decide_eq_true_eq, hx, hy] at h2
  exact h2.resolve_left hn
theorem soloOk_not {ops : List Oper} {i j : Nat} {y : Oper} (hy : ops[j]? = some y) (hc : cls y ≠ 0) (hij : i ≠ j) (h1 : j ∉ (ancs [] ops).getD i []) (h2 : i ∉ (ancs [] ops).getD j []) : soloOk ops i = false := by
  cases hs : soloOk ops i with
  | false => rfl
  | true =>
    unfold soloOk at hs
    have hj : j < ops.length := (List.getElem?_eq_some_iff.1 hy).1
    have := List.all_eq_true.1 hs j (by simpa using hj)
    simp only [hy, Bool.or_eq_true, beq_iff_eq, List.contains_eq_mem, decide_eq_true_eq] at this
    rcases this with ((h | h) | h) | h
    · exact absurd h.symm hij
    · exact absurd h hc
    · exact absurd h h1
    · exact absurd h h2

/-- Whoever is ready may go first. -/
theorem move_front {lim : Nat} {ops : List Oper} (ho : orderOk ops = true) (he : edgesOk ops = true) {i : Nat} {x : Oper} (hx : ops[i]? = some x) : ∀ (pre : List Nat), (∀ p ∈ pre, p < i ∧ p ∉ (ancs [] ops).getD i []) →
    ∀ (post : List Nat) (s sF : St), opsD P cmp call lim ops (pre ++ i :: post) s = some sF → ∃ s1, stepD P cmp call lim ops i s = some s1 ∧ opsD P cmp call lim ops (pre ++ post) s1 = some sF
  | [], _, post, s, sF, e => by
    simp only [List.nil_append, opsD] at e ⊢
    split at e
    · rename_i s1 hs; exact ⟨s1, hs, e⟩
    · cases e
  | p :: pre, hp, post, s, sF, e => by
    simp only [List.cons_append, opsD] at e
    split at e
    · rename_i s1 hs
      obtain ⟨s2, h1, h2⟩ := move_front ho he hx pre (fun q hq => hp q (by simp [hq])) post s1 sF e
      obtain ⟨hlt, hn⟩ := hp p (by simp)
      obtain ⟨y, hy, _⟩ := stepD_inv hs
      have hb : i ∉ (ancs [] ops).getD p [] := fun hm => by have := ancs_lt he hy i hm; omega
      obtain ⟨s1', g1, g2⟩ := swap hy hx (orderOk_pair ho hlt hy hx hn) (fun hc => soloOk_not hx hc (by omega) hb hn) (fun hc => soloOk_not hy hc (by omega) hn hb) hs h1
      refine ⟨s1', g1, ?_⟩
      simp only [List.cons_append, opsD, g2]
      exact h2
    · cases e

theorem getD_set_self {l : Array Bool} {i : Nat} (h : i < l.size) (d : Bool) : (l.setIfInBounds i true).getD i d = true := by
  simp [Array.getD_eq_getD_getElem?, h]
theorem getD_set_ne' {l : Array Bool} {i j : Nat} (h : i ≠ j) (d : Bool) : (l.setIfInBounds i true).getD j d = l.getD j d := by
  simp [Array.getD_eq_getD_getElem?, h]

theorem filter_split {p : Nat → Bool} {i : Nat} (hp : p i = true) : ∀ (n m : Nat), m ≤ i → i < m + n →
    ∃ pre post, (List.range' m n).filter p = pre ++ i :: post ∧ (List.range' m n).filter (fun j => p j && !(j == i)) = pre ++ post ∧ ∀ q ∈ pre, q < i ∧ p q = true
  | 0, m, h1, h2 => by omega
  | n + 1, m, h1, h2 => by
    rw [List.range'_succ]
    by_cases hm : m = i
    · subst hm
      refine ⟨[], (List.range' (m + 1) n).filter p, by simp [hp], ?_, by simp⟩
      rw [List.filter_cons_of_neg (by simp)]
      simp only [List.nil_append]
      apply List.filter_congr
      intro x hx
      have : m + 1 ≤ x := by simp [List.mem_range'] at hx; omega
      have : (x == m) = false := by simp; omega
      simp [this]
    · obtain ⟨pre, post, g1, g2, g3⟩ := filter_split hp n (m + 1) (by omega) (by omega)
      have hmi : (m == i) = false := by simp [hm]
      by_cases hpm : p m = true
      · refine ⟨m :: pre, post, by rw [List.filter_cons_of_pos hpm, g1]; rfl, by rw [List.filter_cons_of_pos (by simp [hpm, hmi]), g2]; rfl, fun q hq => ?_⟩
        rcases List.mem_cons.1 hq with rfl | hq
        · exact ⟨by omega, hpm⟩
        · exact g3 q hq
      · exact ⟨pre, post, by rw [List.filter_cons_of_neg hpm, g1], by rw [List.filter_cons_of_neg (by simp [hpm]), g2], g3⟩

theorem opsD_sound [Tabs P] (hcmp : ∀ t ∈ cmp, cmpOk P t = true) (hcall : CallOk P call) (hkeep : KeepCall call) {lim : Nat} (ops : Array Oper) (ho : orderOk ops.toList = true) (he : edgesOk ops.toList = true)
    {Q : Exit → Act → World → Prop} {ds : List Deferred} : ∀ (fuel : Nat) (listed : Array Bool) (s sF : St) (a : Act) (S : Sh) (w : World), listed.size = ops.size →
      ((List.range' 0 ops.size).filter fun i => !listed.getD i true).length = fuel → (∀ j o, ops.toList[j]? = some o → listed.getD j false = true → ∀ x ∈ preds o, listed.getD x false = true) →
      WR P S s.heap w → VRl S s.tmps a.tmps.toList → a.defers = ds → opsD P cmp call lim ops.toList ((List.range' 0 ops.size).filter fun i => !listed.getD i true) s = some sF →
      Post P S w ds Q (.normal, sF) → wpAny P .any ops Q fuel listed a w
  | 0, listed, s, sF, a, S, w, hsz, hf, hcl, k, ht, hd, e, hp => by
    have hnil := List.eq_nil_of_length_eq_zero hf
    rw [hnil] at e
    cases e
    refine ⟨?_, hp S w a (.refl k) ht hd⟩
    apply List.eq_nil_iff_forall_not_mem.2
    intro i hi
    simp only [Region.ready, List.mem_filter, List.mem_range, Bool.and_eq_true] at hi
    have : i ∈ (List.range' 0 ops.size).filter fun i => !listed.getD i true := List.mem_filter.2 ⟨by simp [List.mem_range']; omega, hi.2.1⟩
    rw [hnil] at this; cases this
  | fuel + 1, listed, s, sF, a, S, w, hsz, hf, hcl, k, ht, hd, e, hp => by
    have hgetD : ∀ i, i < ops.size → listed.getD i true = listed.getD i false := fun i hi => by
      have : i < listed.size := by omega
      simp [Array.getD_eq_getD_getElem?, this]
    have hready : ∀ i, i ∈ Region.ready .any ops listed ↔ i < ops.size ∧ listed.getD i true = false ∧ ∃ o, ops.toList[i]? = some o ∧ ∀ x ∈ preds o, listed.getD x false = true := by
      intro i
      simp only [Region.ready, List.mem_filter, List.mem_range, Bool.and_eq_true, Bool.not_eq_true']
      constructor
      · rintro ⟨h1, h2, h3⟩
        refine ⟨h1, h2, ops[i], by rw [Array.getElem?_toList]; exact Array.getElem?_eq_getElem h1, ?_⟩
        rw [Array.getElem?_eq_getElem h1] at h3
        simp only [Option.map_some, Option.getD_some] at h3
        intro x hx
        obtain ⟨ed, hem, rfl⟩ := List.mem_map.1 hx
        have hmf := List.mem_filter.1 hem
        rw [Array.all_eq_true_iff_forall_mem] at h3
        have := h3 ed (by simpa using hmf.1)
        simpa [hmf.2] using this
      · rintro ⟨h1, h2, o, h3, h4⟩
        refine ⟨h1, h2, ?_⟩
        rw [Array.getElem?_toList] at h3
        rw [h3]
        simp only [Option.map_some, Option.getD_some]
        rw [Array.all_eq_true_iff_forall_mem]
        intro ed hed
        by_cases hb : Go.Region.binds .any ed = true
        · have := h4 ed.on (List.mem_map.2 ⟨ed, List.mem_filter.2 ⟨by simpa using hed, hb⟩, rfl⟩)
          simp [this]
        · simp [hb]
    refine ⟨fun hnone => ?_, fun i hi => ?_⟩
    · -- the first one that is left is ready
      exfalso
      cases hL : (List.range' 0 ops.size).filter fun i => !listed.getD i true with
      | nil => rw [hL] at hf; simp at hf
      | cons i r =>
        have him : i ∈ (List.range' 0 ops.size).filter fun i => !listed.getD i true := by rw [hL]; simp
        obtain ⟨h1, h2⟩ := List.mem_filter.1 him
        have hlt : i < ops.size := by simp [List.mem_range'] at h1; omega
        have hfirst : ∀ q, q < i → listed.getD q false = true := by
          intro q hq
          have hqs : q < ops.size := by omega
          cases hb : listed.getD q false with
          | true => rfl
          | false =>
            have hqm : q ∈ (List.range' 0 ops.size).filter fun i => !listed.getD i true := List.mem_filter.2 ⟨by simp [List.mem_range']; omega, by rw [hgetD q hqs, hb]; rfl⟩
            have hsorted : ((List.range' 0 ops.size).filter fun i => !listed.getD i true).Pairwise (· < ·) := List.Pairwise.filter _ List.pairwise_lt_range'
            rw [hL] at hqm hsorted
            rcases List.mem_cons.1 hqm with rfl | hqm
            · omega
            · have := (List.pairwise_cons.1 hsorted).1 q hqm; omega
        have hop : ops.toList[i]? = some ops[i] := by rw [Array.getElem?_toList]; exact Array.getElem?_eq_getElem hlt
        have : i ∈ Region.ready .any ops listed := (hready i).2 ⟨hlt, by simpa using h2, _, hop, fun x hx => hfirst x (preds_lt he hop x hx)⟩
        rw [hnone] at this; cases this
    · obtain ⟨hlt, hnl, o, hop, hpr⟩ := (hready i).1 hi
      obtain ⟨pre, post, g1, g2, g3⟩ := filter_split (p := fun i => !listed.getD i true) (i := i) (by simp [hnl]) ops.size 0 (Nat.zero_le _) (by omega)
      rw [g1] at e
      have hfree : ∀ q ∈ pre, q < i ∧ q ∉ (ancs [] ops.toList).getD i [] := by
        intro q hq
        obtain ⟨hqi, hqn⟩ := g3 q hq
        refine ⟨hqi, fun hm => ?_⟩
        have := ancs_closed he (D := fun x => listed.getD x false = true) hcl i o hop hpr q hm
        rw [← hgetD q (by omega)] at this
        simp [this] at hqn
      obtain ⟨s1, h1, h2⟩ := move_front ho he hop pre hfree post s sF e
      have hnew : (List.range' 0 ops.size).filter (fun j => !(listed.setIfInBounds i true).getD j true) = pre ++ post := by
        rw [← g2]
        apply List.filter_congr
        intro j _
        by_cases hj : j = i
        · subst hj; rw [getD_set_self (by omega)]; simp
        · rw [getD_set_ne' (fun e => hj e.symm)]
          have : (j == i) = false := by simp [hj]
          simp [this]
      have hlen : (pre ++ post).length = fuel := by rw [g1] at hf; simp at hf ⊢; omega
      have hcl' : ∀ j o, ops.toList[j]? = some o → (listed.setIfInBounds i true).getD j false = true → ∀ x ∈ preds o, (listed.setIfInBounds i true).getD x false = true := by
        intro j o' hj hjl x hx
        have hkeep : ∀ y, listed.getD y false = true → (listed.setIfInBounds i true).getD y false = true := by
          intro y hy
          by_cases hyi : i = y
          · subst hyi; exact getD_set_self (by omega) _
          · rw [getD_set_ne' hyi]; exact hy
        by_cases hji : j = i
        · subst hji
          rw [hop] at hj; cases hj
          exact hkeep x (hpr x hx)
        · rw [getD_set_ne' (fun e => hji e.symm)] at hjl
          exact hkeep x (hcl j o' hj hjl x hx)
      have ih := fun (s1 : St) (a : Act) (S : Sh) (w : World) => opsD_sound hcmp hcall hkeep (lim := lim) ops ho he (Q := Q) (ds := ds) fuel (listed.setIfInBounds i true) s1 sF a S w (by simpa using hsz) (by rw [hnew]; exact hlen) hcl'
      obtain ⟨o', ho', hcase⟩ := stepD_inv h1
      rw [hop] at ho'; cases ho'
      have hopa : ops[i]? = some o := by rw [← Array.getElem?_toList]; exact hop
      unfold wpOp
      simp only [hopa]
      rcases hcase with ⟨hw, v, f, hov, _, rfl⟩ | ⟨hw, rfl⟩
      · rw [if_pos (wantedA_sound ht hw)]
        refine .inl (opA_sound hcmp hcall hkeep k ht hov ?_)
        intro v' S' w' st hv
        exact ih _ _ S' w' st.wr (put_rel (ht.ext st.ext) hv _) (by rw [put_defers]; exact hd) (by rw [hnew]; exact h2) (hp.later st)
      · rw [if_neg (by rw [wantedA_sound ht hw]; simp)]
        exact ih ⟨setT s.tmps o.dst .undef, s.heap, s.dirty⟩ _ S w k (put_rel ht .undef _) (by rw [put_defers]; exact hd) (by rw [hnew]; exact h2) hp

theorem region_draw_sound [Tabs P] (hmix : P.follows .mixedOrders = true) (hcmp : ∀ t ∈ cmp, cmpOk P t = true) (hcall : CallOk P call) (hkeep : KeepCall call) {lim : Nat} {id : Nat} {ops : Array Oper} {Q : Exit → Act → World → Prop} {ds : List Deferred}
    {s sF : St} {a : Act} {S : Sh} {w : World} (ho : orderOk ops.toList = true) (he : edgesOk ops.toList = true) (k : WR P S s.heap w) (ht : VRl S s.tmps a.tmps.toList) (hd : a.defers = ds)
    (e : opsD P cmp call lim ops.toList (List.range ops.size) s = some sF) (hp : Post P S w ds Q (.normal, sF)) : (Code.region id ops true).wp P Q a w := by
  refine wp_region_any hmix ?_
  have hall : (List.range' 0 ops.size).filter (fun i => !(Array.replicate ops.size false).getD i true) = List.range ops.size := by
    rw [List.range_eq_range']
    apply List.filter_eq_self.2
    intro i hi
    have : i < ops.size := by simp [List.mem_range'] at hi; omega
    simp [Array.getD_eq_getD_getElem?, this]
  refine opsD_sound hcmp hcall hkeep ops ho he ops.size (Array.replicate ops.size false) s sF a S w.drew (by simp) (by rw [hall]; simp) ?_ k.drew ht hd (by rw [hall]; exact e) (hp.later (Step.drew k))
  intro j o _ hj
  exfalso
  simp [Array.getD_eq_getD_getElem?, Array.getElem?_replicate] at hj
  split at hj <;> simp at hj
end Go.Ab
