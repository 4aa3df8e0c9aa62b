/- Regions whose order is open: two neighbours may change places. -/
import Derived.Test.YtnmejllfnndcbaaGreatDoorAbCode1
namespace Go.Ab
variable {P : Program} {cmp : List TypeId} {call : Call}

theorem mem_opTmps {l : List Operand} {t : Tmp} (h : Operand.tmp t ∈ l) : t ∈ opTmps l := by
  unfold opTmps
  exact List.mem_filterMap.2 ⟨_, h, rfl⟩
theorem constA_congr {ts ts' : List AVal} {l : List Operand} (h : ∀ t ∈ opTmps l, ts'[t]? = ts[t]?) {x : Operand} (hx : x ∈ l) : constA x ts' = constA x ts := by
  cases x with
  | tmp t => exact h t (mem_opTmps hx)
  | const v => rfl
  | global g => rfl
  | func f => rfl
theorem argsA_congr {ts ts' : List AVal} {l : List Operand} (h : ∀ t ∈ opTmps l, ts'[t]? = ts[t]?) : ∀ {xs : List Operand}, (∀ x ∈ xs, x ∈ l) → argsA ts' xs = argsA ts xs
  | [], _ => rfl
  | x :: xs, hx => by
    simp only [argsA, constA_congr h (hx x (by simp)), argsA_congr (xs := xs) h (fun y hy => hx y (by simp [hy]))]
theorem partsA_congr {ts ts' : List AVal} {l : List Operand} (h : ∀ t ∈ opTmps l, ts'[t]? = ts[t]?) : ∀ {xs : List (Nat × Operand)}, (∀ x ∈ xs, x.2 ∈ l) → partsA ts' xs = partsA ts xs
  | [], _ => rfl
  | (i, x) :: xs, hx => by
    simp only [partsA, constA_congr h (hx (i, x) (by simp)), partsA_congr (xs := xs) h (fun y hy => hx y (by simp [hy]))]
theorem optA_congr {ts ts' : List AVal} {l : List Operand} (h : ∀ t ∈ opTmps l, ts'[t]? = ts[t]?) {x : Option Operand} (hx : ∀ y, x = some y → y ∈ l) : optA ts' x = optA ts x := by
  cases x with
  | none => rfl
  | some y => simp only [optA, constA_congr h (hx y rfl)]

theorem opA_congr {o : Oper} {ts ts' : List AVal} {h : AHeap} (hc : ∀ t ∈ opTmps o.op.operands.toList, ts'[t]? = ts[t]?) : opA P cmp call o ts' h = opA P cmp call o ts h := by
  obtain ⟨dst, op, type, pos, after, guard⟩ := o
  cases op with
  | makeFunc fn first cap =>
    have h1 : argsA ts' first.toList = argsA ts first.toList := argsA_congr hc (fun x hx => by simp [Op.operands] at hx ⊢; exact .inl hx)
    have h2 : argsA ts' cap.toList = argsA ts cap.toList := argsA_congr hc (fun x hx => by simp [Op.operands] at hx ⊢; exact .inr hx)
    cases fn <;> simp only [opA, h1, h2]
  | build t ps =>
    have h1 : partsA ts' ps.toList = partsA ts ps.toList := partsA_congr hc (fun x hx => by simp only [Op.operands, List.mem_map]; exact ⟨x, hx, rfl⟩)
    simp only [opA, h1]
  | buildSlice t n ps =>
    have h1 : partsA ts' ps.toList = partsA ts ps.toList := partsA_congr hc (fun x hx => by simp only [Op.operands, List.mem_map]; exact ⟨x, hx, rfl⟩)
    simp only [opA, h1]
  | call c =>
    obtain ⟨callee, args, ats⟩ := c
    have h1 : argsA ts' args.toList = argsA ts args.toList := argsA_congr hc (fun x hx => by simp [Op.operands, Call.operands] at hx ⊢; exact .inr hx)
    cases callee with
    | value f =>
      have h2 : constA f ts' = constA f ts := constA_congr hc (by simp [Op.operands, Call.operands])
      simp only [opA, h1, h2]
    | invoke r m => simp only [opA]
    | builtin b => simp only [opA, h1]
  | slice t x lo hi mx =>
    have h1 : constA x ts' = constA x ts := constA_congr hc (by simp [Op.operands])
    have h2 : optA ts' lo = optA ts lo := optA_congr hc (fun y hy => by subst hy; simp [Op.operands])
    have h3 : optA ts' hi = optA ts hi := optA_congr hc (fun y hy => by subst hy; simp [Op.operands])
    have h4 : optA ts' mx = optA ts mx := optA_congr hc (fun y hy => by subst hy; simp [Op.operands])
    simp only [opA, h1, h2, h3, h4]
  | pick c a b =>
    have h1 : constA c ts' = constA c ts := constA_congr hc (by simp [Op.operands])
    have h2 : constA a ts' = constA a ts := constA_congr hc (by simp [Op.operands])
    have h3 : constA b ts' = constA b ts := constA_congr hc (by simp [Op.operands])
    simp only [opA, h1, h2, h3]
  | store t a v =>
    have h1 : constA a ts' = constA a ts := constA_congr hc (by simp [Op.operands])
    have h2 : constA v ts' = constA v ts := constA_congr hc (by simp [Op.operands])
    simp only [opA, h1, h2]
  | binOp op t x y t2 =>
    have h1 : constA x ts' = constA x ts := constA_congr hc (by simp [Op.operands])
    have h2 : constA y ts' = constA y ts := constA_congr hc (by simp [Op.operands])
    simp only [opA, h1, h2]
  | indexAddr t x i =>
    have h1 : constA x ts' = constA x ts := constA_congr hc (by simp [Op.operands])
    have h2 : constA i ts' = constA i ts := constA_congr hc (by simp [Op.operands])
    simp only [opA, h1, h2]
  | index t x i =>
    have h1 : constA x ts' = constA x ts := constA_congr hc (by simp [Op.operands])
    have h2 : constA i ts' = constA i ts := constA_congr hc (by simp [Op.operands])
    simp only [opA, h1, h2]
  | move x => simp only [opA, constA_congr (x := x) hc (by simp [Op.operands])]
  | assign x => simp only [opA, constA_congr (x := x) hc (by simp [Op.operands])]
  | box t x => simp only [opA, constA_congr (x := x) hc (by simp [Op.operands])]
  | load t x => simp only [opA, constA_congr (x := x) hc (by simp [Op.operands])]
  | nilCheck x => simp only [opA, constA_congr (x := x) hc (by simp [Op.operands])]
  | unOp op t x => simp only [opA, constA_congr (x := x) hc (by simp [Op.operands])]
  | convert s d x => simp only [opA, constA_congr (x := x) hc (by simp [Op.operands])]
  | makeInterface t x => simp only [opA, constA_congr (x := x) hc (by simp [Op.operands])]
  | fieldAddr s x f => simp only [opA, constA_congr (x := x) hc (by simp [Op.operands])]
  | field t x f => simp only [opA, constA_congr (x := x) hc (by simp [Op.operands])]
  | typeAssert x a b c => simp only [opA, constA_congr (x := x) hc (by simp [Op.operands])]
  | extract x i => simp only [opA, constA_congr (x := x) hc (by simp [Op.operands])]
  | panic x => simp only [opA, constA_congr (x := x) hc (by simp [Op.operands])]
  | _ => simp only [opA]

/-- An operation that does nothing with memory. -/
theorem opA_silent {o : Oper} {ts : List AVal} {h : AHeap} {r : OR} (hc : cls o = 0) (e : opA P cmp call o ts h = some r) : (∀ h', opA P cmp call o ts h' = some r) ∧ ∃ v, r = .val v .same := by
  have V : ∀ {x : Option AVal} {r : OR}, (match x with | some a => some (OR.val a .same) | none => none) = some r → ∃ v, r = .val v .same := by
    intro x r hx
    cases x with
    | none => cases hx
    | some a => cases hx; exact ⟨a, rfl⟩
  obtain ⟨dst, op, type, pos, after, guard⟩ := o
  cases op with
  | call c =>
    obtain ⟨callee, args, ats⟩ := c
    cases callee with
    | builtin b =>
      cases b <;> (try (simp [cls] at hc; done)) <;>
      · simp only [opA] at e ⊢
        refine ⟨fun h' => ?_, ?_⟩
        · rw [← e]
        · (repeat' split at e) <;> first | (cases e; exact ⟨_, rfl⟩) | (cases e; done) | exact V e
    | value f => simp [cls] at hc
    | invoke r m => simp [opA] at e
  | makeFunc fn first cap =>
    cases fn <;> simp only [opA] at e ⊢ <;> first
      | (cases e; done)
      | (refine ⟨fun h' => by rw [← e], ?_⟩; (repeat' split at e) <;> first | (cases e; exact ⟨_, rfl⟩) | (cases e; done))
  | alloc => simp [cls] at hc
  | box => simp [cls] at hc
  | load => simp [cls] at hc
  | store => simp [cls] at hc
  | panic => simp [cls] at hc
  | _ =>
    simp only [opA] at e ⊢ <;> first
      | (cases e; done)
      | (refine ⟨fun h' => by rw [← e], ?_⟩; (repeat' split at e) <;> first | (cases e; exact ⟨_, rfl⟩) | (cases e; done) | exact V e)
end Go.Ab
