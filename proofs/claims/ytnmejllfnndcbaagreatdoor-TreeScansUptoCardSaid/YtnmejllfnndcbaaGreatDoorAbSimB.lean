/- Code without the checks of the order (they are made once, for the whole text). -/
import Derived.Test.YtnmejllfnndcbaaGreatDoorAbSim
set_option linter.unusedSimpArgs false
set_option linter.unusedVariables false
namespace Go.Ab
section
variable (P : Program) (cmp : List TypeId) (call : Call) (lp : Lp)
def wantV (w : Bool) : AVal → Option Bool
  | .bool b => some (b == w)
  | .undef => some false
  | _ => none
def guardB (ops : List Oper) (j : Nat) (w : Bool) (ts : List AVal) : Option Bool := bnd ops[j]? fun oj => bnd oj.dst fun d => bnd ts[d]? (wantV w)
/-- One operation that is wanted. -/
def stepB (dr : Bool) (ask : Eff → Bool) (r : Option OR) (dst : Option Tmp) (s : St) (k : St → Option (AEx × St)) : Option (AEx × St) := match r with
  | some (.val v f) => if !dr || ask f then k ⟨setT s.tmps dst v, f.of s.heap, f.dirt ++ s.dirty⟩ else none
  | some (.pan v f) => if dr then none else some (.pan v, ⟨s.tmps, f.of s.heap, f.dirt ++ s.dirty⟩)
  | none => none
def opsB (dr : Bool) (lim : Nat) (ops : List Oper) : Nat → List Oper → St → Option (AEx × St)
  | _, [], s => some (.normal, s)
  | j, o :: r, s => match wantedA ops o s.tmps with
    | some true => stepB dr (fun f => askD lim ops j o s f) (opA P cmp call o s.tmps s.heap) o.dst s (opsB dr lim ops (j + 1) r)
    | some false => opsB dr lim ops (j + 1) r ⟨setT s.tmps o.dst .undef, s.heap, s.dirty⟩
    | none => none
def codeB : Code → St → Option (AEx × St)
  | .skip, s => some (.normal, s)
  | .region _ ops dr, s => opsB P cmp call dr s.heap.length ops.toList 0 ops.toList s
  | .seq a b, s => bindS (codeB a s) (codeB b)
  | .cond c a b, s => condS (constA c s.tmps) (codeB a) (codeB b) s
  | .block id b, s => blockS id (codeB b s)
  | .loop b, s => lp (codeB b) s
  | .exit id, s => some (.exit id, s)
  | .ret, s => some (.ret, s)
  | _, _ => none
def drawnOk : Code → Bool
  | .region _ ops true => orderOk ops.toList && edgesOk ops.toList
  | .seq a b => drawnOk a && drawnOk b
  | .cond _ a b => drawnOk a && drawnOk b
  | .block _ b => drawnOk b
  | .loop b => drawnOk b
  | _ => true
def fin (n : Nat) (rs : List ResultVar) : Option (AEx × St) → Option CR
  | some (.normal, s) | some (.ret, s) => match resA P rs s with
      | some vs => some (.ret (leaveA n (tupleA vs) s.heap s.dirty).1 (leaveA n (tupleA vs) s.heap s.dirty).2)
      | none => none
  | some (.pan v, s) => some (.pan (leaveA n v s.heap s.dirty).1 (leaveA n v s.heap s.dirty).2)
  | _ => none
end
section
variable {P : Program} {cmp : List TypeId} {call : Call} {lp : Lp}
theorem opsB_false {lim : Nat} {ops : List Oper} : ∀ (l : List Oper) (j : Nat) (s : St), opsB P cmp call false lim ops j l s = opsA P cmp call ops l s
  | [], _, _ => rfl
  | o :: r, j, s => by
    unfold opsB opsA
    cases wantedA ops o s.tmps with
    | none => rfl
    | some b =>
      cases b with
      | false => simp only [opsB_false r]
      | true =>
        simp only
        cases hop : opA P cmp call o s.tmps s.heap with
        | none => rfl
        | some q => cases q with
          | val v f => simp only [stepB, Bool.not_false, Bool.true_or, if_true, opsB_false r]
          | pan v f => rfl
theorem opsB_true {lim : Nat} {ops : List Oper} : ∀ (l : List Oper) (j : Nat) (s : St), ops.drop j = l → opsB P cmp call true lim ops j l s = (match opsD P cmp call lim ops (List.range' j l.length) s with | some s' => some (.normal, s') | none => none)
  | [], j, s, _ => by simp [opsB, opsD]
  | o :: r, j, s, h => by
    have hj : ops[j]? = some o := by
      have := congrArg (fun q => q[0]?) h
      simpa using this
    have hr : ops.drop (j + 1) = r := by rw [← List.drop_drop, h]; rfl
    unfold opsB
    simp only [List.length_cons, List.range'_succ, opsD, stepD, hj]
    cases wantedA ops o s.tmps with
    | none => rfl
    | some b =>
      cases b with
      | false => simp only [opsB_true r (j + 1) _ hr]
      | true =>
        simp only
        cases hop : opA P cmp call o s.tmps s.heap with
        | none => rfl
        | some q => cases q with
          | val v f =>
            simp only [stepB, Bool.not_true, Bool.false_or, opsB_true r (j + 1) _ hr]
            split <;> rfl
          | pan v f => rfl
theorem codeB_eq : ∀ (c : Code) (s : St), drawnOk c = true → codeA P cmp call lp c s = codeB P cmp call lp c s := by
  intro c
  induction c with
  | skip => intro s _; rfl
  | region id ops dr =>
    intro s h
    cases dr with
    | false => simp only [codeA, codeB, opsB_false]
    | true =>
      simp only [codeA, codeB]
      simp only [drawnOk] at h
      rw [if_pos h, opsB_true ops.toList 0 s List.drop_zero, List.range_eq_range']
      rfl
  | seq a b iha ihb =>
    intro s h
    simp only [drawnOk, Bool.and_eq_true] at h
    have hb : codeA P cmp call lp b = codeB P cmp call lp b := funext fun s => ihb s h.2
    rw [sim_seq, iha s h.1, hb]; rfl
  | cond c a b iha ihb =>
    intro s h
    simp only [drawnOk, Bool.and_eq_true] at h
    have ha : codeA P cmp call lp a = codeB P cmp call lp a := funext fun s => iha s h.1
    have hb : codeA P cmp call lp b = codeB P cmp call lp b := funext fun s => ihb s h.2
    rw [sim_cond, ha, hb]; rfl
  | block id b ih => intro s h; rw [sim_block, ih s h]; rfl
  | loop b ih =>
    intro s h
    have hb : codeA P cmp call lp b = codeB P cmp call lp b := funext fun s => ih s h
    rw [sim_loop, hb]; rfl
  | rangeFunc => intro s _; rfl
  | exit id => intro s _; rfl
  | scope => intro s _; rfl
  | label => intro s _; rfl
  | goto => intro s _; rfl
  | ret => intro s _; rfl
  | refuse => intro s _; rfl
theorem evC_fn {ext : Ext} {f : FuncId} {fn : Func} {c : Code} (hx : ext f = none) (hf : P.funcs[f]? = some fn) (hb : fn.body = some c) (hd : drawnOk c = true) (a : List AVal) (h : AHeap) :
    evC P cmp ext f a h = fin P h.length fn.results.toList (codeB P cmp (evC P cmp ext) lpC c ⟨a ++ List.replicate (fn.ntmps - a.length) .undef, h, []⟩) := by
  rw [evC_eq hx]
  unfold fnA
  simp only [hf, hb]
  rw [codeB_eq c _ hd]
  cases codeB P cmp (evC P cmp ext) lpC c ⟨a ++ List.replicate (fn.ntmps - a.length) .undef, h, []⟩ with
  | none => rfl
  | some x => obtain ⟨ex, s⟩ := x; cases ex <;> rfl
theorem b_skip (s : St) : codeB P cmp call lp .skip s = some (.normal, s) := rfl
theorem b_exit (id : Nat) (s : St) : codeB P cmp call lp (.exit id) s = some (.exit id, s) := rfl
theorem b_ret (s : St) : codeB P cmp call lp .ret s = some (.ret, s) := rfl
theorem b_region (id : Nat) (ops : Array Oper) (s : St) : codeB P cmp call lp (.region id ops false) s = opsB P cmp call false 0 ops.toList 0 ops.toList s := by simp only [codeB, opsB_false]
theorem b_drawn (id : Nat) (ops : Array Oper) (s : St) : codeB P cmp call lp (.region id ops true) s = opsB P cmp call true s.heap.length ops.toList 0 ops.toList s := rfl
theorem b_seq (a b : Code) (s : St) : codeB P cmp call lp (.seq a b) s = bindS (codeB P cmp call lp a s) (codeB P cmp call lp b) := rfl
theorem b_cond (c : Operand) (a b : Code) (s : St) : codeB P cmp call lp (.cond c a b) s = condS (constA c s.tmps) (codeB P cmp call lp a) (codeB P cmp call lp b) s := rfl
theorem b_block (id : Nat) (b : Code) (s : St) : codeB P cmp call lp (.block id b) s = blockS id (codeB P cmp call lp b s) := rfl
theorem b_loop (b : Code) (s : St) : codeB P cmp call lp (.loop b) s = lp (codeB P cmp call lp b) s := rfl
theorem b_nil (dr : Bool) (lim j : Nat) (ops : List Oper) (s : St) : opsB P cmp call dr lim ops j [] s = some (.normal, s) := rfl
theorem b_cons (dr : Bool) (lim j : Nat) (ops : List Oper) (dst : Option Tmp) (op : Op) (t : TypeId) (pos : String) (after : Array Edge) (r : List Oper) (s : St) :
    opsB P cmp call dr lim ops j ({ dst, op, type := t, pos, after, guard := none } :: r) s =
      stepB dr (fun f => askD lim ops j { dst, op, type := t, pos, after, guard := none } s f) (opA P cmp call { dst, op, type := t, pos, after, guard := none } s.tmps s.heap) dst s (opsB P cmp call dr lim ops (j + 1) r) := by
  rw [opsB]; rfl
def wantB (w : Option Bool) (a b : St → Option (AEx × St)) (s : St) : Option (AEx × St) := match w with
  | some true => a s
  | some false => b s
  | none => none
theorem wantB_true (a b : St → Option (AEx × St)) (s : St) : wantB (some true) a b s = a s := rfl
theorem wantB_false (a b : St → Option (AEx × St)) (s : St) : wantB (some false) a b s = b s := rfl
def goB (P : Program) (cmp : List TypeId) (call : Call) (dr : Bool) (lim j : Nat) (ops : List Oper) (o : Oper) (r : List Oper) (s : St) : Option (AEx × St) :=
  stepB dr (fun f => askD lim ops j o s f) (opA P cmp call o s.tmps s.heap) o.dst s (opsB P cmp call dr lim ops (j + 1) r)
def skB (P : Program) (cmp : List TypeId) (call : Call) (dr : Bool) (lim j : Nat) (ops : List Oper) (dst : Option Tmp) (r : List Oper) (s : St) : Option (AEx × St) :=
  opsB P cmp call dr lim ops (j + 1) r ⟨setT s.tmps dst .undef, s.heap, s.dirty⟩
theorem b_go (dr : Bool) (lim j : Nat) (ops r : List Oper) (o : Oper) (s : St) : goB P cmp call dr lim j ops o r s = stepB dr (fun f => askD lim ops j o s f) (opA P cmp call o s.tmps s.heap) o.dst s (opsB P cmp call dr lim ops (j + 1) r) := rfl
theorem b_sk (dr : Bool) (lim j : Nat) (ops r : List Oper) (dst : Option Tmp) (s : St) : skB P cmp call dr lim j ops dst r s = opsB P cmp call dr lim ops (j + 1) r ⟨setT s.tmps dst .undef, s.heap, s.dirty⟩ := rfl
theorem b_consG (dr : Bool) (lim j : Nat) (ops : List Oper) (dst : Option Tmp) (op : Op) (t : TypeId) (pos : String) (after : Array Edge) (g : Nat) (w : Bool) (r : List Oper) (s : St) :
    opsB P cmp call dr lim ops j ({ dst, op, type := t, pos, after, guard := some (g, w) } :: r) s =
      wantB (guardB ops g w s.tmps) (goB P cmp call dr lim j ops { dst, op, type := t, pos, after, guard := some (g, w) } r) (skB P cmp call dr lim j ops dst r) s := by
  rw [opsB]
  have : wantedA ops { dst, op, type := t, pos, after, guard := some (g, w) } s.tmps = guardB ops g w s.tmps := by
    simp only [wantedA, guardB]
    cases ops[g]? with
    | none => rfl
    | some oj => simp only [bnd]; cases oj.dst with
      | none => rfl
      | some d => simp only; cases s.tmps[d]? with
        | none => rfl
        | some v => cases v <;> rfl
  rw [this]
  cases guardB ops g w s.tmps with
  | none => rfl
  | some b => cases b <;> rfl
theorem stepB_val (ask : Eff → Bool) (v : AVal) (d : Tmp) (ts : List AVal) (h : AHeap) (dd : List Nat) (k : St → Option (AEx × St)) : stepB false ask (some (.val v .same)) (some d) ⟨ts, h, dd⟩ k = k ⟨ts.set d v, h, dd⟩ := rfl
theorem stepB_val0 (ask : Eff → Bool) (v : AVal) (ts : List AVal) (h : AHeap) (dd : List Nat) (k : St → Option (AEx × St)) : stepB false ask (some (.val v .same)) none ⟨ts, h, dd⟩ k = k ⟨ts, h, dd⟩ := rfl
theorem stepB_heap (ask : Eff → Bool) (v : AVal) (d : Tmp) (ts : List AVal) (h h' : AHeap) (dd d' : List Nat) (k : St → Option (AEx × St)) : stepB false ask (some (.val v (.heap h' d'))) (some d) ⟨ts, h, dd⟩ k = k ⟨ts.set d v, h', d' ++ dd⟩ := rfl
theorem stepB_heap0 (ask : Eff → Bool) (v : AVal) (ts : List AVal) (h h' : AHeap) (dd d' : List Nat) (k : St → Option (AEx × St)) : stepB false ask (some (.val v (.heap h' d'))) none ⟨ts, h, dd⟩ k = k ⟨ts, h', d' ++ dd⟩ := rfl
theorem stepB_pan (ask : Eff → Bool) (v : AVal) (d : Option Tmp) (ts : List AVal) (h : AHeap) (dd : List Nat) (k : St → Option (AEx × St)) : stepB false ask (some (.pan v .same)) d ⟨ts, h, dd⟩ k = some (.pan v, ⟨ts, h, dd⟩) := rfl
def ifB (b : Bool) (x : Option (AEx × St)) : Option (AEx × St) := if b then x else none
theorem ifB_true (x : Option (AEx × St)) : ifB true x = x := rfl
theorem stepD_val (ask : Eff → Bool) (v : AVal) (d : Tmp) (ts : List AVal) (h : AHeap) (dd : List Nat) (k : St → Option (AEx × St)) : stepB true ask (some (.val v .same)) (some d) ⟨ts, h, dd⟩ k = ifB (ask .same) (k ⟨ts.set d v, h, dd⟩) := rfl
theorem stepD_val0 (ask : Eff → Bool) (v : AVal) (ts : List AVal) (h : AHeap) (dd : List Nat) (k : St → Option (AEx × St)) : stepB true ask (some (.val v .same)) none ⟨ts, h, dd⟩ k = ifB (ask .same) (k ⟨ts, h, dd⟩) := rfl
theorem stepD_heap (ask : Eff → Bool) (v : AVal) (d : Tmp) (ts : List AVal) (h h' : AHeap) (dd d' : List Nat) (k : St → Option (AEx × St)) : stepB true ask (some (.val v (.heap h' d'))) (some d) ⟨ts, h, dd⟩ k = ifB (ask (.heap h' d')) (k ⟨ts.set d v, h', d' ++ dd⟩) := rfl
theorem stepD_heap0 (ask : Eff → Bool) (v : AVal) (ts : List AVal) (h h' : AHeap) (dd d' : List Nat) (k : St → Option (AEx × St)) : stepB true ask (some (.val v (.heap h' d'))) none ⟨ts, h, dd⟩ k = ifB (ask (.heap h' d')) (k ⟨ts, h', d' ++ dd⟩) := rfl
theorem fin_ret (n : Nat) (rs : List ResultVar) (s : St) : fin P n rs (some (.ret, s)) = bnd (resA P rs s) fun vs => some (.ret (leaveA n (tupleA vs) s.heap s.dirty).1 (leaveA n (tupleA vs) s.heap s.dirty).2) := by
  simp only [fin]; cases resA P rs s <;> rfl
theorem fin_normal (n : Nat) (rs : List ResultVar) (s : St) : fin P n rs (some (.normal, s)) = bnd (resA P rs s) fun vs => some (.ret (leaveA n (tupleA vs) s.heap s.dirty).1 (leaveA n (tupleA vs) s.heap s.dirty).2) := by
  simp only [fin]; cases resA P rs s <;> rfl
theorem fin_pan (n : Nat) (rs : List ResultVar) (v : AVal) (s : St) : fin P n rs (some (.pan v, s)) = some (.pan (leaveA n v s.heap s.dirty).1 (leaveA n v s.heap s.dirty).2) := rfl
theorem res_nil (s : St) : resA P [] s = some [] := rfl
theorem res_tmp (t : Tmp) (r : List ResultVar) (s : St) : resA P (.tmp t :: r) s = bnd s.tmps[t]? fun a => bnd (resA P r s) fun l => some (a :: l) := by
  simp only [resA]
  cases s.tmps[t]? with
  | none => rfl
  | some a => cases resA P r s <;> rfl
theorem res_cell (a : Tmp) (t : TypeId) (r : List ResultVar) (s : St) : resA P (.cell a t :: r) s = bnd s.tmps[a]? fun p => bnd (loadA P s.heap t p) fun a => bnd (resA P r s) fun l => some (a :: l) := by
  simp only [resA]
  cases s.tmps[a]? with
  | none => rfl
  | some p => simp only [bnd]; cases loadA P s.heap t p with
    | none => rfl
    | some v => cases resA P r s <;> rfl
theorem leave_pure1 (v : AVal) (h : AHeap) (d : List Nat) (hr : refs (strip3 v) = []) : (leaveA 0 v h d).1 = strip3 v := by rw [leave_pure v h d hr]
theorem leave_pure2 (v : AVal) (h : AHeap) (d : List Nat) (hr : refs (strip3 v) = []) : (leaveA 0 v h d).2 = .same := by rw [leave_pure v h d hr]
end
end Go.Ab
