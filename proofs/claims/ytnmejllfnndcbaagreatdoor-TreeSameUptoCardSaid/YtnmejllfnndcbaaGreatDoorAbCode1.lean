/- Soundness of regions. -/
import Derived.Test.YtnmejllfnndcbaaGreatDoorAbOp9
import Derived.Orders
set_option linter.unusedSimpArgs false
set_option linter.unusedVariables false
namespace Go.Ab
variable {P : Program}

theorem wantedA_sound {S : Sh} {ops : Array Oper} {o : Oper} {ts : List AVal} {a : Act} {b : Bool} (ht : VRl S ts a.tmps.toList) (e : wantedA ops.toList o ts = some b) :
    Region.wanted o (yielded ops a.tmps) = b := by
  unfold wantedA at e
  unfold Region.wanted
  split at e
  · rename_i hg; cases e; simp [hg]
  · rename_i j want hg
    simp only [hg]
    split at e
    · rename_i oj hj
      rw [Array.getElem?_toList] at hj
      split at e
      · rename_i d hd
        split at e
        · rename_i c hc
          cases e
          obtain ⟨v, hv, hr⟩ := ht.get hc
          rw [Array.getElem?_toList] at hv
          cases hr
          simp [yielded, hj, hd, hv]
        · rename_i hc
          cases e
          obtain ⟨v, hv, hr⟩ := ht.get hc
          rw [Array.getElem?_toList] at hv
          cases hr
          simp [yielded, hj, hd, hv]
        · cases e
      · cases e
    · cases e

theorem put_rel {S : Sh} {ts : List AVal} {a : Act} {u : AVal} {v : Value} (ht : VRl S ts a.tmps.toList) (hv : VR S u v) (dst : Option Tmp) : VRl S (setT ts dst u) (a.put dst v).tmps.toList := by
  cases dst with
  | none => exact ht
  | some d => simpa [setT, Act.put] using ht.set d hv
theorem put_defers (a : Act) (dst : Option Tmp) (v : Value) : (a.put dst v).defers = a.defers := by cases dst <;> rfl

/-- What the code behind may count on. -/
def Post (P : Program) [Tabs P] (S : Sh) (w : World) (ds : List Deferred) (Q : Exit → Act → World → Prop) (x : AEx × St) : Prop :=
  ∀ S' w' a', Step P S w S' x.2.heap w' → VRl S' x.2.tmps a'.tmps.toList → a'.defers = ds →
    match x.1 with
    | .normal => Q .normal a' w'
    | .exit id => Q (.exit id) a' w'
    | .ret => Q .ret a' w'
    | .pan u => ∀ v, VR S' u v → Q (.panic [{ v, recovered := false }]) a' w'

theorem Post.later [Tabs P] {S S1 : Sh} {w w1 : World} {h1 : AHeap} {ds : List Deferred} {Q : Exit → Act → World → Prop} {x : AEx × St} (k : Post P S w ds Q x) (st : Step P S w S1 h1 w1) : Post P S1 w1 ds Q x :=
  fun S' w' a' h ht hd => k S' w' a' (st.trans h) ht hd

theorem opsA_sound [Tabs P] {cmp : List TypeId} (hcmp : ∀ t ∈ cmp, cmpOk P t = true) {call : Call} (hcall : CallOk P call) (hkeep : KeepCall call) (ops : Array Oper) {Q : Exit → Act → World → Prop} {ds : List Deferred} :
    ∀ (m n : Nat) (s : St) (x : AEx × St) (a : Act) (S : Sh) (w : World), n + m = ops.size → WR P S s.heap w → VRl S s.tmps a.tmps.toList → a.defers = ds →
      opsA P cmp call ops.toList (ops.toList.drop n) s = some x → Post P S w ds Q x → wpOps P ops Q (List.range' n m) a w
  | 0, n, s, x, a, S, w, hn, k, ht, hd, e, hp => by
    rw [List.drop_eq_nil_of_le (by simp; omega)] at e
    cases e
    exact hp S w a (.refl k) ht hd
  | m + 1, n, s, x, a, S, w, hn, k, ht, hd, e, hp => by
    have hlt : n < ops.size := by omega
    have hg : ops[n]? = some ops[n] := Array.getElem?_eq_getElem hlt
    rw [show ops.toList.drop n = ops[n] :: ops.toList.drop (n + 1) by
      rw [← Array.getElem_toList (h := hlt)]; exact (List.drop_eq_getElem_cons (by simpa using hlt))] at e
    rw [List.range'_succ]
    unfold wpOps
    simp only [hg]
    unfold opsA at e
    split at e
    · rename_i hw
      rw [if_pos (wantedA_sound ht hw)]
      refine .inl ?_
      split at e
      · rename_i v f ho
        refine opA_sound hcmp hcall hkeep k ht ho ?_
        intro v' S' w' st hv
        exact opsA_sound hcmp hcall hkeep ops m (n + 1) _ x _ S' w' (by omega) st.wr (put_rel (ht.ext st.ext) hv _) (by rw [put_defers]; exact hd) e (hp.later st)
      · rename_i v f ho
        cases e
        refine opA_sound hcmp hcall hkeep k ht ho ?_
        intro v' S' w' st hv
        exact hp S' w' a st (ht.ext st.ext) hd v' hv
      · cases e
    · rename_i hw
      rw [if_neg (by rw [wantedA_sound ht hw]; simp)]
      exact opsA_sound hcmp hcall hkeep ops m (n + 1) ⟨setT s.tmps ops[n].dst .undef, s.heap, s.dirty⟩ x _ S w (by omega) k (put_rel ht .undef _) (by rw [put_defers]; exact hd) e hp
    · cases e

theorem region_sound [Tabs P] {cmp : List TypeId} (hcmp : ∀ t ∈ cmp, cmpOk P t = true) {call : Call} (hcall : CallOk P call) (hkeep : KeepCall call) {id : Nat} {ops : Array Oper} {Q : Exit → Act → World → Prop} {ds : List Deferred}
    {s : St} {x : AEx × St} {a : Act} {S : Sh} {w : World} (k : WR P S s.heap w) (ht : VRl S s.tmps a.tmps.toList) (hd : a.defers = ds)
    (e : opsA P cmp call ops.toList ops.toList s = some x) (hp : Post P S w ds Q x) : (Code.region id ops false).wp P Q a w := by
  refine wp_region ?_
  have := opsA_sound hcmp hcall hkeep ops (Q := Q) (ds := ds) ops.size 0 s x a S w (by omega) k ht hd (by simpa using e) hp
  rwa [List.range_eq_range']
end Go.Ab
/- Regions whose order is open: two neighbours may change places. -/
namespace Go.Ab
variable {P : Program} {cmp : List TypeId} {call : Call}

theorem mem_opTmps {l : List Operand} {t : Tmp} (h : Operand.tmp t ∈ l) : t ∈ opTmps l := by
  unfold opTmps
  exact List.mem_filterMap.2 ⟨_, h, rfl⟩
theorem constA_congr {ts ts' : List AVal} {l : List Operand} (h : ∀ t ∈ opTmps l, ts'[t]? = ts[t]?) {x : Operand} (hx : x ∈ l) : constA x ts' = constA x ts := by
  cases x with
  | tmp t => exact h t (mem_opTmps hx)
  | const v => rfl
  | global g => rfl
  | func f => rfl
theorem argsA_congr {ts ts' : List AVal} {l : List Operand} (h : ∀ t ∈ opTmps l, ts'[t]? = ts[t]?) : ∀ {xs : List Operand}, (∀ x ∈ xs, x ∈ l) → argsA ts' xs = argsA ts xs
  | [], _ => rfl
  | x :: xs, hx => by
    simp only [argsA, constA_congr h (hx x (by simp)), argsA_congr (xs := xs) h (fun y hy => hx y (by simp [hy]))]
theorem partsA_congr {ts ts' : List AVal} {l : List Operand} (h : ∀ t ∈ opTmps l, ts'[t]? = ts[t]?) : ∀ {xs : List (Nat × Operand)}, (∀ x ∈ xs, x.2 ∈ l) → partsA ts' xs = partsA ts xs
  | [], _ => rfl
  | (i, x) :: xs, hx => by
    simp only [partsA, constA_congr h (hx (i, x) (by simp)), partsA_congr (xs := xs) h (fun y hy => hx y (by simp [hy]))]
theorem optA_congr {ts ts' : List AVal} {l : List Operand} (h : ∀ t ∈ opTmps l, ts'[t]? = ts[t]?) {x : Option Operand} (hx : ∀ y, x = some y → y ∈ l) : optA ts' x = optA ts x := by
  cases x with
  | none => rfl
  | some y => simp only [optA, constA_congr h (hx y rfl)]

theorem opA_congr {o : Oper} {ts ts' : List AVal} {h : AHeap} (hc : ∀ t ∈ opTmps o.op.operands.toList, ts'[t]? = ts[t]?) : opA P cmp call o ts' h = opA P cmp call o ts h := by
  obtain ⟨dst, op, type, pos, after, guard⟩ := o
  cases op with
  | makeFunc fn first cap =>
    have h1 : argsA ts' first.toList = argsA ts first.toList := argsA_congr hc (fun x hx => by simp [Op.operands] at hx ⊢; exact .inl hx)
    have h2 : argsA ts' cap.toList = argsA ts cap.toList := argsA_congr hc (fun x hx => by simp [Op.operands] at hx ⊢; exact .inr hx)
    cases fn <;> simp only [opA, h1, h2]
  | build t ps =>
    have h1 : partsA ts' ps.toList = partsA ts ps.toList := partsA_congr hc (fun x hx => by simp only [Op.operands, List.mem_map]; exact ⟨x, hx, rfl⟩)
    simp only [opA, h1]
  | buildSlice t n ps =>
    have h1 : partsA ts' ps.toList = partsA ts ps.toList := partsA_congr hc (fun x hx => by simp only [Op.operands, List.mem_map]; exact ⟨x, hx, rfl⟩)
    simp only [opA, h1]
  | call c =>
    obtain ⟨callee, args, ats⟩ := c
    have h1 : argsA ts' args.toList = argsA ts args.toList := argsA_congr hc (fun x hx => by simp [Op.operands, Call.operands] at hx ⊢; exact .inr hx)
    cases callee with
    | value f =>
      have h2 : constA f ts' = constA f ts := constA_congr hc (by simp [Op.operands, Call.operands])
      simp only [opA, h1, h2]
    | invoke r m => simp only [opA]
    | builtin b => simp only [opA, h1]
  | slice t x lo hi mx =>
    have h1 : constA x ts' = constA x ts := constA_congr hc (by simp [Op.operands])
    have h2 : optA ts' lo = optA ts lo := optA_congr hc (fun y hy => by subst hy; simp [Op.operands])
    have h3 : optA ts' hi = optA ts hi := optA_congr hc (fun y hy => by subst hy; simp [Op.operands])
    have h4 : optA ts' mx = optA ts mx := optA_congr hc (fun y hy => by subst hy; simp [Op.operands])
    simp only [opA, h1, h2, h3, h4]
  | pick c a b =>
    have h1 : constA c ts' = constA c ts := constA_congr hc (by simp [Op.operands])
    have h2 : constA a ts' = constA a ts := constA_congr hc (by simp [Op.operands])
    have h3 : constA b ts' = constA b ts := constA_congr hc (by simp [Op.operands])
    simp only [opA, h1, h2, h3]
  | store t a v =>
    have h1 : constA a ts' = constA a ts := constA_congr hc (by simp [Op.operands])
    have h2 : constA v ts' = constA v ts := constA_congr hc (by simp [Op.operands])
    simp only [opA, h1, h2]
  | binOp op t x y t2 =>
    have h1 : constA x ts' = constA x ts := constA_congr hc (by simp [Op.operands])
    have h2 : constA y ts' = constA y ts := constA_congr hc (by simp [Op.operands])
    simp only [opA, h1, h2]
  | indexAddr t x i =>
    have h1 : constA x ts' = constA x ts := constA_congr hc (by simp [Op.operands])
    have h2 : constA i ts' = constA i ts := constA_congr hc (by simp [Op.operands])
    simp only [opA, h1, h2]
  | index t x i =>
    have h1 : constA x ts' = constA x ts := constA_congr hc (by simp [Op.operands])
    have h2 : constA i ts' = constA i ts := constA_congr hc (by simp [Op.operands])
    simp only [opA, h1, h2]
  | move x => simp only [opA, constA_congr (x := x) hc (by simp [Op.operands])]
  | assign x => simp only [opA, constA_congr (x := x) hc (by simp [Op.operands])]
  | box t x => simp only [opA, constA_congr (x := x) hc (by simp [Op.operands])]
  | load t x => simp only [opA, constA_congr (x := x) hc (by simp [Op.operands])]
  | nilCheck x => simp only [opA, constA_congr (x := x) hc (by simp [Op.operands])]
  | unOp op t x => simp only [opA, constA_congr (x := x) hc (by simp [Op.operands])]
  | convert s d x => simp only [opA, constA_congr (x := x) hc (by simp [Op.operands])]
  | makeInterface t x => simp only [opA, constA_congr (x := x) hc (by simp [Op.operands])]
  | fieldAddr s x f => simp only [opA, constA_congr (x := x) hc (by simp [Op.operands])]
  | field t x f => simp only [opA, constA_congr (x := x) hc (by simp [Op.operands])]
  | typeAssert x a b c => simp only [opA, constA_congr (x := x) hc (by simp [Op.operands])]
  | extract x i => simp only [opA, constA_congr (x := x) hc (by simp [Op.operands])]
  | panic x => simp only [opA, constA_congr (x := x) hc (by simp [Op.operands])]
  | _ => simp only [opA]

/-- An operation that does nothing with memory. -/
theorem opA_silent {o : Oper} {ts : List AVal} {h : AHeap} {r : OR} (hc : cls o = 0) (e : opA P cmp call o ts h = some r) : (∀ h', opA P cmp call o ts h' = some r) ∧ ∃ v, r = .val v .same := by
  have V : ∀ {x : Option AVal} {r : OR}, (match x with | some a => some (OR.val a .same) | none => none) = some r → ∃ v, r = .val v .same := by
    intro x r hx
    cases x with
    | none => cases hx
    | some a => cases hx; exact ⟨a, rfl⟩
  obtain ⟨dst, op, type, pos, after, guard⟩ := o
  cases op with
  | call c =>
    obtain ⟨callee, args, ats⟩ := c
    cases callee with
    | builtin b =>
      cases b <;> (try (simp [cls] at hc; done)) <;>
      · simp only [opA] at e ⊢
        refine ⟨fun h' => ?_, ?_⟩
        · rw [← e]
        · (repeat' split at e) <;> first | (cases e; exact ⟨_, rfl⟩) | (cases e; done) | exact V e
    | value f => simp [cls] at hc
    | invoke r m => simp [opA] at e
  | makeFunc fn first cap =>
    cases fn <;> simp only [opA] at e ⊢ <;> first
      | (cases e; done)
      | (refine ⟨fun h' => by rw [← e], ?_⟩; (repeat' split at e) <;> first | (cases e; exact ⟨_, rfl⟩) | (cases e; done))
  | alloc => simp [cls] at hc
  | box => simp [cls] at hc
  | load => simp [cls] at hc
  | store => simp [cls] at hc
  | panic => simp [cls] at hc
  | _ =>
    simp only [opA] at e ⊢ <;> first
      | (cases e; done)
      | (refine ⟨fun h' => by rw [← e], ?_⟩; (repeat' split at e) <;> first | (cases e; exact ⟨_, rfl⟩) | (cases e; done) | exact V e)
end Go.Ab
/- Regions whose order is open: any order gives what the order of the text gives. -/
namespace Go.Ab
variable {P : Program} {cmp : List TypeId} {call : Call}

theorem setT_get {ts : List AVal} {dst : Option Tmp} {v : AVal} {t : Tmp} (h : ∀ d, dst = some d → d ≠ t) : (setT ts dst v)[t]? = ts[t]? := by
  cases dst with
  | none => rfl
  | some d => exact List.getElem?_set_ne (h d rfl)
theorem setT_comm {ts : List AVal} {x y : Option Tmp} {u v : AVal} (h : ∀ d, x = some d → y ≠ some d) : setT (setT ts x u) y v = setT (setT ts y v) x u := by
  cases x with
  | none => rfl
  | some d => cases y with
    | none => rfl
    | some d' =>
      have : d ≠ d' := fun e => h d rfl (by rw [e])
      exact List.set_comm _ _ this

theorem wantedA_congr {ops : List Oper} {o : Oper} {ts ts' : List AVal} (h : ∀ t ∈ readsOf ops o, ts'[t]? = ts[t]?) : wantedA ops o ts' = wantedA ops o ts := by
  unfold wantedA
  split
  · rfl
  · rename_i j want hg
    split
    · rename_i oj hj
      split
      · rename_i d hd
        rw [h d (by simp [readsOf, hg, hj, hd])]
      · rfl
    · rfl

theorem indep_dst {ops : List Oper} {x y : Oper} (h : indep ops x y = true) :
    (∀ d, x.dst = some d → ∀ t ∈ readsOf ops y, d ≠ t) ∧ (∀ d, y.dst = some d → ∀ t ∈ readsOf ops x, d ≠ t) ∧ (∀ d, x.dst = some d → y.dst ≠ some d) := by
  unfold indep at h
  simp only [Bool.and_eq_true] at h
  refine ⟨fun d hd t ht e => ?_, fun d hd t ht e => ?_, fun d hd e => ?_⟩
  · have := h.1; simp only [hd, Bool.and_eq_true, Bool.not_eq_true'] at this
    subst e
    have h2 := this.1
    rw [List.contains_eq_mem] at h2
    simp [ht] at h2
  · have := h.2; simp only [hd, Bool.not_eq_true'] at this
    subst e
    rw [List.contains_eq_mem] at this
    simp [ht] at this
  · have := h.1; simp only [hd, Bool.and_eq_true, Bool.not_eq_true'] at this
    rw [e] at this; simp at this

theorem opA_load {o : Oper} {ts : List AVal} {h : AHeap} {r : OR} (hc : cls o = 1) (e : opA P cmp call o ts h = some r) : (∃ v, r = .val v .same) ∧ ∃ t x, o.op = .load t x ∧
    ∀ h' : AHeap, (∀ b off cs, constA x ts = some (.ptr b off) → h[b]? = some (.box cs) → h'[b]? = some (.box cs)) → opA P cmp call o ts h' = some r := by
  obtain ⟨dst, op, type, pos, after, guard⟩ := o
  cases op with
  | call c =>
    obtain ⟨callee, args, ats⟩ := c
    cases callee with
    | builtin b => cases b <;> simp [cls] at hc
    | value f => simp [cls] at hc
    | invoke r m => simp [cls] at hc
  | load t x =>
    simp only [opA] at e ⊢
    split at e
    · rename_i p hp
      split at e
      · rename_i u hu
        cases e
        refine ⟨⟨u, rfl⟩, t, x, rfl, fun h' hh => ?_⟩
        have : loadA P h' t p = some u := by
          unfold loadA at hu ⊢
          cases p <;> simp only at hu ⊢ <;> first | exact hu | skip
          rename_i b off
          split at hu
          · rename_i cs hb; rw [hh b off cs hp hb]; exact hu
          · cases hu
        simp only [this]
      · cases e
    · cases e
  | _ => simp [cls] at hc

theorem opA_stores {o : Oper} {ts : List AVal} {h : AHeap} {v : AVal} {f : Eff} (hc : cls o = 3) (e : opA P cmp call o ts h = some (.val v f)) :
    ∃ t a x b off cs, o.op = .store t a x ∧ constA a ts = some (.ptr b off) ∧ v = .undef ∧ f = .heap (h.set b (.box cs)) [b] ∧
      ∀ h' : AHeap, h'[b]? = h[b]? → opA P cmp call o ts h' = some (.val .undef (.heap (h'.set b (.box cs)) [b])) := by
  obtain ⟨dst, op, type, pos, after, guard⟩ := o
  cases op with
  | call c =>
    obtain ⟨callee, args, ats⟩ := c
    cases callee with
    | builtin b => cases b <;> simp [cls] at hc
    | value f => simp [cls] at hc
    | invoke r m => simp [cls] at hc
  | store t a x =>
    simp only [opA] at e ⊢
    split at e
    · rename_i p u hp hu
      split at e
      · rename_i h1 b1 hst
        cases e
        unfold storeA at hst
        split at hst
        · rename_i b off
          split at hst
          · rename_i cs n hb hn
            split at hst
            · rename_i hcond
              cases hset : setCells cs off u.cells with
              | none => rw [hset] at hst; cases hst
              | some cs' =>
                rw [hset] at hst
                simp only [Option.map_some, Option.some.injEq, Prod.mk.injEq] at hst
                obtain ⟨rfl, rfl⟩ := hst
                refine ⟨t, a, x, _, off, cs', rfl, hp, rfl, rfl, fun h' hh => ?_⟩
                have : storeA P h' t (.ptr b off) u = some (h'.set b (.box cs'), b) := by
                  unfold storeA
                  simp only [hh, hb, hn]
                  rw [if_pos hcond, hset]; rfl
                simp only [hp, hu, this]
            · cases hst
          · cases hst
        · cases hst
      · cases e
    · cases e
  | panic x =>
    simp only [opA] at e
    split at e <;> cases e
  | _ => simp [cls] at hc

theorem opA_makes {o : Oper} {ts : List AVal} {h : AHeap} {v : AVal} {f : Eff} (hc : cls o = 2) (e : opA P cmp call o ts h = some (.val v f)) :
    h.length ≤ (f.of h).length ∧ ∀ b cs, b < h.length → ((f.of h)[b]? = some (.box cs) ↔ h[b]? = some (.box cs)) := by
  have add : ∀ x : Blk, h.length ≤ (h ++ [x]).length ∧ ∀ b cs, b < h.length → ((h ++ [x])[b]? = some (.box cs) ↔ h[b]? = some (.box cs)) := by
    intro x
    exact ⟨by simp, fun b cs hb => by rw [List.getElem?_append_left hb]⟩
  have put : ∀ (b n : Nat) (e : TypeId) (n' : Nat) (e' : TypeId), h[b]? = some (.tok n e) →
      h.length ≤ (h.set b (.tok n' e')).length ∧ ∀ c cs, c < h.length → ((h.set b (.tok n' e'))[c]? = some (.box cs) ↔ h[c]? = some (.box cs)) := by
    intro b n e n' e' hb
    refine ⟨by simp, fun c cs hc' => ?_⟩
    by_cases he : c = b
    · subst he
      rw [List.getElem?_set_self hc', hb]
      simp
    · rw [List.getElem?_set_ne (fun h => he h.symm)]
  obtain ⟨dst, op, type, pos, after, guard⟩ := o
  cases op with
  | call c =>
    obtain ⟨callee, args, ats⟩ := c
    cases callee with
    | builtin b =>
      cases b <;> (try (simp [cls] at hc; done))
      simp only [opA] at e
      split at e
      · cases e
      · split at e
        · rename_i x y t _ _ a f' hap
          split at e
          · cases e
            unfold appendA at hap
            (repeat' split at hap) <;> first
              | (cases hap; done)
              | (cases hap; exact ⟨Nat.le_refl _, fun _ _ _ => Iff.rfl⟩)
              | (cases hap; exact add _)
              | skip
            rename_i hb hc2
            cases hap
            exact put _ _ _ _ _ hb
          · cases e
        · cases e
      · cases e
    | value f => simp [cls] at hc
    | invoke r m => simp [cls] at hc
  | alloc t =>
    simp only [opA] at e
    split at e
    · cases e; exact add _
    · cases e
  | box t x =>
    simp only [opA] at e
    split at e
    · cases e; exact add _
    · cases e
  | _ => simp [cls] at hc

/-- One step, taken apart. -/
theorem stepD_inv {lim : Nat} {ops : List Oper} {j : Nat} {s s' : St} (e : stepD P cmp call lim ops j s = some s') : ∃ o, ops[j]? = some o ∧
    ((wantedA ops o s.tmps = some true ∧ ∃ v f, opA P cmp call o s.tmps s.heap = some (.val v f) ∧ askD lim ops j o s f = true ∧ s' = ⟨setT s.tmps o.dst v, f.of s.heap, f.dirt ++ s.dirty⟩) ∨
     (wantedA ops o s.tmps = some false ∧ s' = ⟨setT s.tmps o.dst .undef, s.heap, s.dirty⟩)) := by
  unfold stepD at e
  split at e
  · cases e
  · rename_i o ho
    refine ⟨o, ho, ?_⟩
    split at e
    · rename_i hw
      split at e
      · rename_i v f hv
        split at e
        · rename_i ha; cases e; exact .inl ⟨hw, v, f, hv, ha, rfl⟩
        · cases e
      · cases e
    · rename_i hw; cases e; exact .inr ⟨hw, rfl⟩
    · cases e

theorem askD_congr {lim : Nat} {ops : List Oper} {j : Nat} {o : Oper} {s s' : St} {f : Eff} (ht : ∀ t ∈ opTmps o.op.operands.toList, s'.tmps[t]? = s.tmps[t]?) (hl : cls o = 2 → lim ≤ s.heap.length → lim ≤ s'.heap.length)
    (h : askD lim ops j o s f = true) : askD lim ops j o s' f = true := by
  unfold askD at h ⊢
  split at h
  · rename_i hc
    split at h
    · rename_i t x ho
      have : constA x s'.tmps = constA x s.tmps := constA_congr ht (by rw [ho]; simp [Op.operands])
      rw [this]; exact h
    · cases h
  · rename_i hc
    simp only [decide_eq_true_eq] at h ⊢
    exact hl hc h
  · rename_i hc
    rw [Bool.or_eq_true] at h ⊢
    rcases h with h | h
    · exact .inl h
    · refine .inr ?_
      split at h
      · rename_i t x y ho
        have : constA x s'.tmps = constA x s.tmps := constA_congr ht (by rw [ho]; simp [Op.operands])
        rw [this]; exact h
      · cases h
  · exact h
  · rfl
theorem askD_silent {lim : Nat} {ops : List Oper} {j : Nat} {o : Oper} {s : St} {f : Eff} (h : cls o = 0) : askD lim ops j o s f = true := by
  unfold askD; rw [h]
  rfl

theorem swap {lim : Nat} {ops : List Oper} {i j : Nat} {x y : Oper} {s s1 s2 : St} (hx : ops[i]? = some x) (hy : ops[j]? = some y) (hp : pairOk ops x y = true)
    (hsx : cls y ≠ 0 → soloOk ops i = false) (hsy : cls x ≠ 0 → soloOk ops j = false)
    (e1 : stepD P cmp call lim ops i s = some s1) (e2 : stepD P cmp call lim ops j s1 = some s2) :
    ∃ s1', stepD P cmp call lim ops j s = some s1' ∧ stepD P cmp call lim ops i s1' = some s2 := by
  unfold pairOk at hp
  simp only [Bool.and_eq_true, Bool.or_eq_true, beq_iff_eq] at hp
  obtain ⟨hin, hcl⟩ := hp
  obtain ⟨d1, d2, d3⟩ := indep_dst hin
  obtain ⟨x', hx', c1⟩ := stepD_inv e1
  rw [hx] at hx'; cases hx'
  obtain ⟨y', hy', c2⟩ := stepD_inv e2
  rw [hy] at hy'; cases hy'
  have rx : ∀ {u : AVal} {ts : List AVal}, ∀ t ∈ readsOf ops x, (setT ts y.dst u)[t]? = ts[t]? := fun t ht => setT_get fun d hd => d2 d hd t ht
  have ry : ∀ {u : AVal} {ts : List AVal}, ∀ t ∈ readsOf ops y, (setT ts x.dst u)[t]? = ts[t]? := fun t ht => setT_get fun d hd => d1 d hd t ht
  have sub : ∀ o : Oper, ∀ t ∈ opTmps o.op.operands.toList, t ∈ readsOf ops o := fun o t ht => by simp [readsOf, ht]
  have comm : ∀ {ts : List AVal} {u v : AVal}, setT (setT ts x.dst u) y.dst v = setT (setT ts y.dst v) x.dst u := setT_comm d3
  rcases c1 with ⟨wx, vx, fx, ox, ax, rfl⟩ | ⟨wx, rfl⟩
  · rcases c2 with ⟨wy, vy, fy, oy, ay, rfl⟩ | ⟨wy, rfl⟩
    · -- both are wanted
      simp only at wy oy ay
      rw [wantedA_congr ry] at wy
      rw [opA_congr (fun t ht => ry t (sub y t ht))] at oy
      -- y at the heap of s, x behind it
      have key : opA P cmp call y s.tmps s.heap = some (.val vy fy) ∧ opA P cmp call x s.tmps (fy.of s.heap) = some (.val vx fx) ∧ fx.of (fy.of s.heap) = fy.of (fx.of s.heap) ∧
          fx.dirt ++ (fy.dirt ++ s.dirty) = fy.dirt ++ (fx.dirt ++ s.dirty) ∧ askD lim ops j y s fy = true ∧ askD lim ops i x ⟨s.tmps, fy.of s.heap, s.dirty⟩ fx = true := by
        have ay' : ∀ (hl : cls y = 2 → lim ≤ (fx.of s.heap).length → lim ≤ s.heap.length), askD lim ops j y s fy = true := fun hl =>
          askD_congr (s := ⟨setT s.tmps x.dst vx, fx.of s.heap, fx.dirt ++ s.dirty⟩) (fun t ht => (ry t (sub y t ht)).symm) hl ay
        by_cases hx0 : cls x = 0
        · obtain ⟨h1, v, hv⟩ := opA_silent hx0 ox
          cases hv
          exact ⟨oy, h1 _, rfl, rfl, ay' (fun _ h => h), askD_silent hx0⟩
        by_cases hy0 : cls y = 0
        · obtain ⟨h1, v, hv⟩ := opA_silent hy0 oy
          cases hv
          exact ⟨h1 _, ox, rfl, rfl, askD_silent hy0, ax⟩
        have same4 : ∀ (o : Oper) (k : Nat) (s0 : St) (v : AVal) (f : Eff) (h0 : AHeap), cls o = 1 ∨ cls o = 4 → soloOk ops k = false → opA P cmp call o s.tmps h0 = some (.val v f) → askD lim ops k o s0 f = true → f = .same := by
          intro o k s0 v f h0 hc hs ho ha
          rcases hc with hc | hc
          · obtain ⟨⟨v', hv'⟩, _⟩ := opA_load hc ho
            cases hv'; rfl
          · unfold askD at ha
            rw [hc] at ha
            simp only [hs, Bool.or_false] at ha
            cases f with
            | same => rfl
            | heap => simp [Eff.isSame] at ha
        rcases hcl with (((((hc | hc) | ⟨hc1, hc2⟩) | ⟨hc1, hc2⟩) | ⟨hc1, hc2⟩) | ⟨hc1, hc2, hdp⟩) | ⟨⟨hc1, hdp⟩, hc2⟩
        · exact absurd hc hx0
        · exact absurd hc hy0
        · have hfx := same4 x i s vx fx s.heap hc1 (hsx hy0) ox ax
          subst hfx
          have hfy := same4 y j _ vy fy _ hc2 (hsy hx0) oy ay
          subst hfy
          exact ⟨oy, ox, rfl, rfl, ay' (fun _ h => h), ax⟩
        · -- x reads, y makes
          obtain ⟨⟨v', hv'⟩, t, q, hop, hre⟩ := opA_load hc1 ox
          cases hv'
          have hm := opA_makes hc2 oy
          refine ⟨oy, hre _ (fun b off cs hb hbox => (hm.2 b cs (List.getElem?_eq_some_iff.1 hbox).1).2 hbox), rfl, rfl, ay' (fun _ h => h), ?_⟩
          exact askD_congr (s := s) (fun t ht => rfl) (fun h2 => by rw [hc1] at h2; cases h2) ax
        · -- x makes, y reads
          obtain ⟨⟨v', hv'⟩, t, q, hop, hre⟩ := opA_load hc2 oy
          cases hv'
          have hm := opA_makes hc1 ox
          have hlim : lim ≤ s.heap.length := by
            unfold askD at ax; rw [hc1] at ax; simpa using ax
          have hay := ay' (fun h2 => by rw [hc2] at h2; cases h2)
          refine ⟨hre _ (fun b off cs hb hbox => ?_), ox, rfl, rfl, hay, ax⟩
          have hb' : b < lim := by
            unfold askD at hay; rw [hc2, hop] at hay
            simpa [hb] using hay
          exact (hm.2 b cs (by omega)).1 hbox
        · -- x reads, y writes what is new
          obtain ⟨⟨v', hv'⟩, t, q, hop, hre⟩ := opA_load hc1 ox
          cases hv'
          obtain ⟨t2, a2, x2, b2, off2, cs2, hop2, hp2, rfl, rfl, hre2⟩ := opA_stores hc2 oy
          have hay := ay' (fun h2 => by rw [hc2] at h2; cases h2)
          have hb2 : lim ≤ b2 := by
            unfold askD at hay; rw [hc2, hop2] at hay
            simpa [hp2, hdp] using hay
          refine ⟨oy, hre _ (fun b off cs hb hbox => ?_), rfl, rfl, hay, ?_⟩
          · have hb' : b < lim := by
              unfold askD at ax; rw [hc1, hop] at ax
              simpa [hb] using ax
            show (s.heap.set b2 (.box cs2))[b]? = _
            rw [List.getElem?_set_ne (by omega)]; exact hbox
          · exact askD_congr (s := s) (fun t ht => rfl) (fun h2 => by rw [hc1] at h2; cases h2) ax
        · -- x writes what is new, y reads
          obtain ⟨⟨v', hv'⟩, t, q, hop, hre⟩ := opA_load hc2 oy
          cases hv'
          obtain ⟨t2, a2, x2, b2, off2, cs2, hop2, hp2, rfl, rfl, hre2⟩ := opA_stores hc1 ox
          have hb2 : lim ≤ b2 := by
            unfold askD at ax; rw [hc1, hop2] at ax
            simpa [hp2, hdp] using ax
          have hay := ay' (fun h2 => by rw [hc2] at h2; cases h2)
          refine ⟨hre _ (fun b off cs hb hbox => ?_), ox, rfl, rfl, hay, ax⟩
          have hb' : b < lim := by
            unfold askD at hay; rw [hc2, hop] at hay
            simpa [hb] using hay
          have hbox' : (s.heap.set b2 (.box cs2))[b]? = some (.box cs) := hbox
          rw [List.getElem?_set_ne (by omega)] at hbox'; exact hbox'
      obtain ⟨k1, k2, k3, k4, k5, k6⟩ := key
      refine ⟨⟨setT s.tmps y.dst vy, fy.of s.heap, fy.dirt ++ s.dirty⟩, ?_, ?_⟩
      · unfold stepD; simp only [hy, wy, k1, k5, if_true]
      · unfold stepD
        simp only [hx, wantedA_congr rx, wx, opA_congr (fun t ht => rx t (sub x t ht)), k2]
        rw [if_pos (askD_congr (s := ⟨s.tmps, fy.of s.heap, s.dirty⟩) (s' := ⟨setT s.tmps y.dst vy, fy.of s.heap, fy.dirt ++ s.dirty⟩) (fun t ht => rx t (sub x t ht)) (fun _ h => h) k6)]
        rw [k3, k4, comm]
    · simp only at wy
      rw [wantedA_congr ry] at wy
      refine ⟨⟨setT s.tmps y.dst .undef, s.heap, s.dirty⟩, ?_, ?_⟩
      · unfold stepD; simp only [hy, wy]
      · unfold stepD
        simp only [hx, wantedA_congr rx, wx, opA_congr (fun t ht => rx t (sub x t ht)), ox]
        rw [if_pos (askD_congr (s := s) (s' := ⟨setT s.tmps y.dst .undef, s.heap, s.dirty⟩) (fun t ht => rx t (sub x t ht)) (fun _ h => h) ax), comm]
  · rcases c2 with ⟨wy, vy, fy, oy, ay, rfl⟩ | ⟨wy, rfl⟩
    · simp only at wy oy ay
      rw [wantedA_congr ry] at wy
      rw [opA_congr (fun t ht => ry t (sub y t ht))] at oy
      refine ⟨⟨setT s.tmps y.dst vy, fy.of s.heap, fy.dirt ++ s.dirty⟩, ?_, ?_⟩
      · unfold stepD
        simp only [hy, wy, oy]
        rw [if_pos (askD_congr (s := ⟨setT s.tmps x.dst .undef, s.heap, s.dirty⟩) (s' := s) (fun t ht => (ry t (sub y t ht)).symm) (fun _ h => h) ay)]
      · unfold stepD
        simp only [hx, wantedA_congr rx, wx, comm]
    · simp only at wy
      rw [wantedA_congr ry] at wy
      refine ⟨⟨setT s.tmps y.dst .undef, s.heap, s.dirty⟩, ?_, ?_⟩
      · unfold stepD; simp only [hy, wy]
      · unfold stepD
        simp only [hx, wantedA_congr rx, wx, comm]
end Go.Ab
