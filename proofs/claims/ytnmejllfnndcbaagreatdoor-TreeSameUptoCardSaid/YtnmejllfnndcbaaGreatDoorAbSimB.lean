/- Code without the checks of the order (they are made once, for the whole text). -/
import Derived.Test.YtnmejllfnndcbaaGreatDoorAbSim
set_option linter.unusedSimpArgs false
set_option linter.unusedVariables false
namespace Go.Ab
section
variable (P : Program) (cmp : List TypeId) (call : Call) (lp : Lp)
def wantV (w : Bool) : AVal → Option Bool
  | .bool b => some (b == w)
  | .undef => some false
  | _ => none
def guardB (ops : List Oper) (j : Nat) (w : Bool) (ts : List AVal) : Option Bool := bnd ops[j]? fun oj => bnd oj.dst fun d => bnd ts[d]? (wantV w)
/-- One operation that is wanted. -/
def stepB (dr : Bool) (ask : Eff → Bool) (r : Option OR) (dst : Option Tmp) (s : St) (k : St → Option (AEx × St)) : Option (AEx × St) := match r with
  | some (.val v f) => if !dr || ask f then k ⟨setT s.tmps dst v, f.of s.heap, f.dirt ++ s.dirty⟩ else none
  | some (.pan v f) => if dr then none else some (.pan v, ⟨s.tmps, f.of s.heap, f.dirt ++ s.dirty⟩)
  | none => none
def opsB (dr : Bool) (lim : Nat) (ops : List Oper) : Nat → List Oper → St → Option (AEx × St)
  | _, [], s => some (.normal, s)
  | j, o :: r, s => match wantedA ops o s.tmps with
    | some true => stepB dr (fun f => askD lim ops j o s f) (opA P cmp call o s.tmps s.heap) o.dst s (opsB dr lim ops (j + 1) r)
    | some false => opsB dr lim ops (j + 1) r ⟨setT s.tmps o.dst .undef, s.heap, s.dirty⟩
    | none => none
def codeB : Code → St → Option (AEx × St)
  | .skip, s => some (.normal, s)
  | .region _ ops dr, s => opsB P cmp call dr s.heap.length ops.toList 0 ops.toList s
  | .seq a b, s => bindS (codeB a s) (codeB b)
  | .cond c a b, s => condS (constA c s.tmps) (codeB a) (codeB b) s
  | .block id b, s => blockS id (codeB b s)
  | .loop b, s => lp (codeB b) s
  | .exit id, s => some (.exit id, s)
  | .ret, s => some (.ret, s)
  | _, _ => none
def drawnOk : Code → Bool
  | .region _ ops true => orderOk ops.toList && edgesOk ops.toList
  | .seq a b => drawnOk a && drawnOk b
  | .cond _ a b => drawnOk a && drawnOk b
  | .block _ b => drawnOk b
  | .loop b => drawnOk b
  | _ => true
def fin (n : Nat) (rs : List ResultVar) : Option (AEx × St) → Option CR
  | some (.normal, s) | some (.ret, s) => match resA P rs s with
      | some vs => some (.ret (leaveA n (tupleA vs) s.heap s.dirty).1 (leaveA n (tupleA vs) s.heap s.dirty).2)
      | none => none
  | some (.pan v, s) => some (.pan (leaveA n v s.heap s.dirty).1 (leaveA n v s.heap s.dirty).2)
  | _ => none
end
section
variable {P : Program} {cmp : List TypeId} {call : Call} {lp : Lp}
theorem opsB_false {lim : Nat} {ops : List Oper} : ∀ (l : List Oper) (j : Nat) (s : St), opsB P cmp call false lim ops j l s = opsA P cmp call ops l s
  | [], _, _ => rfl
  | o :: r, j, s => by
    unfold opsB opsA
    cases wantedA ops o s.tmps with
    | none => rfl
    | some b =>
      cases b with
      | false => simp only [opsB_false r]
      | true =>
        simp only
        cases hop : opA P cmp call o s.tmps s.heap with
        | none => rfl
        | some q => cases q with
          | val v f => simp only [stepB, Bool.not_false, Bool.true_or, if_true, opsB_false r]
          | pan v f => rfl
theorem opsB_true {lim : Nat} {ops : List Oper} : ∀ (l : List Oper) (j : Nat) (s : St), ops.drop j = l → opsB P cmp call true lim ops j l s = (match opsD P cmp call lim ops (List.range' j l.length) s with | some s' => some (.normal, s') | none => none)
  | [], j, s, _ => by simp [opsB, opsD]
  | o :: r, j, s, h => by
    have hj : ops[j]? = some o := by
      have := congrArg (fun q => q[0]?) h
      simpa using this
    have hr : ops.drop (j + 1) = r := by rw [← List.drop_drop, h]; rfl
    unfold opsB
    simp only [List.length_cons, List.range'_succ, opsD, stepD, hj]
    cases wantedA ops o s.tmps with
    | none => rfl
    | some b =>
      cases b with
      | false => simp only [opsB_true r (j + 1) _ hr]
      | true =>
        simp only
        cases hop : opA P cmp call o s.tmps s.heap with
        | none => rfl
        | some q => cases q with
          | val v f =>
            simp only [stepB, Bool.not_true, Bool.false_or, opsB_true r (j + 1) _ hr]
            split <;> rfl
          | pan v f => rfl
theorem codeB_eq : ∀ (c : Code) (s : St), drawnOk c = true → codeA P cmp call lp c s = codeB P cmp call lp c s := by
  intro c
  induction c with
  | skip => intro s _; rfl
  | region id ops dr =>
    intro s h
    cases dr with
    | false => simp only [codeA, codeB, opsB_false]
    | true =>
      simp only [codeA, codeB]
      simp only [drawnOk] at h
      rw [if_pos h, opsB_true ops.toList 0 s List.drop_zero, List.range_eq_range']
      rfl
  | seq a b iha ihb =>
    intro s h
    simp only [drawnOk, Bool.and_eq_true] at h
    have hb : codeA P cmp call lp b = codeB P cmp call lp b := funext fun s => ihb s h.2
    rw [sim_seq, iha s h.1, hb]; rfl
  | cond c a b iha ihb =>
    intro s h
    simp only [drawnOk, Bool.and_eq_true] at h
    have ha : codeA P cmp call lp a = codeB P cmp call lp a := funext fun s => iha s h.1
    have hb : codeA P cmp call lp b = codeB P cmp call lp b := funext fun s => ihb s h.2
    rw [sim_cond, ha, hb]; rfl
  | block id b ih => intro s h; rw [sim_block, ih s h]; rfl
  | loop b ih =>
    intro s h
    have hb : codeA P cmp call lp b = codeB P cmp call lp b := funext fun s => ih s h
    rw [sim_loop, hb]; rfl
  | rangeFunc => intro s _; rfl
  | exit id => intro s _; rfl
  | scope => intro s _; rfl
  | label => intro s _; rfl
  | goto => intro s _; rfl
  | ret => intro s _; rfl
  | refuse => intro s _; rfl
theorem evC_fn {ext : Ext} {f : FuncId} {fn : Func} {c : Code} (hx : ext f = none) (hf : P.funcs[f]? = some fn) (hb : fn.body = some c) (hd : drawnOk c = true) (a : List AVal) (h : AHeap) :
    evC P cmp ext f a h = fin P h.length fn.results.toList (codeB P cmp (evC P cmp ext) lpC c ⟨a ++ List.replicate (fn.ntmps - a.length) .undef, h, []⟩) := by
  rw [evC_eq hx]
  unfold fnA
  simp only [hf, hb]
  rw [codeB_eq c _ hd]
  cases codeB P cmp (evC P cmp ext) lpC c ⟨a ++ List.replicate (fn.ntmps - a.length) .undef, h, []⟩ with
  | none => rfl
  | some x => obtain ⟨ex, s⟩ := x; cases ex <;> rfl
theorem b_skip (s : St) : codeB P cmp call lp .skip s = some (.normal, s) := rfl
theorem b_exit (id : Nat) (s : St) : codeB P cmp call lp (.exit id) s = some (.exit id, s) := rfl
theorem b_ret (s : St) : codeB P cmp call lp .ret s = some (.ret, s) := rfl
theorem b_region (id : Nat) (ops : Array Oper) (s : St) : codeB P cmp call lp (.region id ops false) s = opsB P cmp call false 0 ops.toList 0 ops.toList s := by simp only [codeB, opsB_false]
theorem b_drawn (id : Nat) (ops : Array Oper) (s : St) : codeB P cmp call lp (.region id ops true) s = opsB P cmp call true s.heap.length ops.toList 0 ops.toList s := rfl
theorem b_seq (a b : Code) (s : St) : codeB P cmp call lp (.seq a b) s = bindS (codeB P cmp call lp a s) (codeB P cmp call lp b) := rfl
theorem b_cond (c : Operand) (a b : Code) (s : St) : codeB P cmp call lp (.cond c a b) s = condS (constA c s.tmps) (codeB P cmp call lp a) (codeB P cmp call lp b) s := rfl
theorem b_block (id : Nat) (b : Code) (s : St) : codeB P cmp call lp (.block id b) s = blockS id (codeB P cmp call lp b s) := rfl
theorem b_loop (b : Code) (s : St) : codeB P cmp call lp (.loop b) s = lp (codeB P cmp call lp b) s := rfl
theorem b_nil (dr : Bool) (lim j : Nat) (ops : List Oper) (s : St) : opsB P cmp call dr lim ops j [] s = some (.normal, s) := rfl
theorem b_cons (dr : Bool) (lim j : Nat) (ops : List Oper) (dst : Option Tmp) (op : Op) (t : TypeId) (pos : String) (after : Array Edge) (r : List Oper) (s : St) :
    opsB P cmp call dr lim ops j ({ dst, op, type := t, pos, after, guard := none } :: r) s =
      stepB dr (fun f => askD lim ops j { dst, op, type := t, pos, after, guard := none } s f) (opA P cmp call { dst, op, type := t, pos, after, guard := none } s.tmps s.heap) dst s (opsB P cmp call dr lim ops (j + 1) r) := by
  rw [opsB]; rfl
def wantB (w : Option Bool) (a b : St → Option (AEx × St)) (s : St) : Option (AEx × St) := match w with
  | some true => a s
  | some false => b s
  | none => none
theorem wantB_true (a b : St → Option (AEx × St)) (s : St) : wantB (some true) a b s = a s := rfl
theorem wantB_false (a b : St → Option (AEx × St)) (s : St) : wantB (some false) a b s = b s := rfl
def goB (P : Program) (cmp : List TypeId) (call : Call) (dr : Bool) (lim j : Nat) (ops : List Oper) (o : Oper) (r : List Oper) (s : St) : Option (AEx × St) :=
  stepB dr (fun f => askD lim ops j o s f) (opA P cmp call o s.tmps s.heap) o.dst s (opsB P cmp call dr lim ops (j + 1) r)
def skB (P : Program) (cmp : List TypeId) (call : Call) (dr : Bool) (lim j : Nat) (ops : List Oper) (dst : Option Tmp) (r : List Oper) (s : St) : Option (AEx × St) :=
  opsB P cmp call dr lim ops (j + 1) r ⟨setT s.tmps dst .undef, s.heap, s.dirty⟩
theorem b_go (dr : Bool) (lim j : Nat) (ops r : List Oper) (o : Oper) (s : St) : goB P cmp call dr lim j ops o r s = stepB dr (fun f => askD lim ops j o s f) (opA P cmp call o s.tmps s.heap) o.dst s (opsB P cmp call dr lim ops (j + 1) r) := rfl
theorem b_sk (dr : Bool) (lim j : Nat) (ops r : List Oper) (dst : Option Tmp) (s : St) : skB P cmp call dr lim j ops dst r s = opsB P cmp call dr lim ops (j + 1) r ⟨setT s.tmps dst .undef, s.heap, s.dirty⟩ := rfl
theorem b_consG (dr : Bool) (lim j : Nat) (ops : List Oper) (dst : Option Tmp) (op : Op) (t : TypeId) (pos : String) (after : Array Edge) (g : Nat) (w : Bool) (r : List Oper) (s : St) :
    opsB P cmp call dr lim ops j ({ dst, op, type := t, pos, after, guard := some (g, w) } :: r) s =
      wantB (guardB ops g w s.tmps) (goB P cmp call dr lim j ops { dst, op, type := t, pos, after, guard := some (g, w) } r) (skB P cmp call dr lim j ops dst r) s := by
  rw [opsB]
  have : wantedA ops { dst, op, type := t, pos, after, guard := some (g, w) } s.tmps = guardB ops g w s.tmps := by
    simp only [wantedA, guardB]
    cases ops[g]? with
    | none => rfl
    | some oj => simp only [bnd]; cases oj.dst with
      | none => rfl
      | some d => simp only; cases s.tmps[d]? with
        | none => rfl
        | some v => cases v <;> rfl
  rw [this]
  cases guardB ops g w s.tmps with
  | none => rfl
  | some b => cases b <;> rfl
theorem stepB_val (ask : Eff → Bool) (v : AVal) (d : Tmp) (ts : List AVal) (h : AHeap) (dd : List Nat) (k : St → Option (AEx × St)) : stepB false ask (some (.val v .same)) (some d) ⟨ts, h, dd⟩ k = k ⟨ts.set d v, h, dd⟩ := rfl
theorem stepB_val0 (ask : Eff → Bool) (v : AVal) (ts : List AVal) (h : AHeap) (dd : List Nat) (k : St → Option (AEx × St)) : stepB false ask (some (.val v .same)) none ⟨ts, h, dd⟩ k = k ⟨ts, h, dd⟩ := rfl
theorem stepB_heap (ask : Eff → Bool) (v : AVal) (d : Tmp) (ts : List AVal) (h h' : AHeap) (dd d' : List Nat) (k : St → Option (AEx × St)) : stepB false ask (some (.val v (.heap h' d'))) (some d) ⟨ts, h, dd⟩ k = k ⟨ts.set d v, h', d' ++ dd⟩ := rfl
theorem stepB_heap0 (ask : Eff → Bool) (v : AVal) (ts : List AVal) (h h' : AHeap) (dd d' : List Nat) (k : St → Option (AEx × St)) : stepB false ask (some (.val v (.heap h' d'))) none ⟨ts, h, dd⟩ k = k ⟨ts, h', d' ++ dd⟩ := rfl
theorem stepB_pan (ask : Eff → Bool) (v : AVal) (d : Option Tmp) (ts : List AVal) (h : AHeap) (dd : List Nat) (k : St → Option (AEx × St)) : stepB false ask (some (.pan v .same)) d ⟨ts, h, dd⟩ k = some (.pan v, ⟨ts, h, dd⟩) := rfl
def ifB (b : Bool) (x : Option (AEx × St)) : Option (AEx × St) := if b then x else none
theorem ifB_true (x : Option (AEx × St)) : ifB true x = x := rfl
theorem stepD_val (ask : Eff → Bool) (v : AVal) (d : Tmp) (ts : List AVal) (h : AHeap) (dd : List Nat) (k : St → Option (AEx × St)) : stepB true ask (some (.val v .same)) (some d) ⟨ts, h, dd⟩ k = ifB (ask .same) (k ⟨ts.set d v, h, dd⟩) := rfl
theorem stepD_val0 (ask : Eff → Bool) (v : AVal) (ts : List AVal) (h : AHeap) (dd : List Nat) (k : St → Option (AEx × St)) : stepB true ask (some (.val v .same)) none ⟨ts, h, dd⟩ k = ifB (ask .same) (k ⟨ts, h, dd⟩) := rfl
theorem stepD_heap (ask : Eff → Bool) (v : AVal) (d : Tmp) (ts : List AVal) (h h' : AHeap) (dd d' : List Nat) (k : St → Option (AEx × St)) : stepB true ask (some (.val v (.heap h' d'))) (some d) ⟨ts, h, dd⟩ k = ifB (ask (.heap h' d')) (k ⟨ts.set d v, h', d' ++ dd⟩) := rfl
theorem stepD_heap0 (ask : Eff → Bool) (v : AVal) (ts : List AVal) (h h' : AHeap) (dd d' : List Nat) (k : St → Option (AEx × St)) : stepB true ask (some (.val v (.heap h' d'))) none ⟨ts, h, dd⟩ k = ifB (ask (.heap h' d')) (k ⟨ts, h', d' ++ dd⟩) := rfl
theorem fin_ret (n : Nat) (rs : List ResultVar) (s : St) : fin P n rs (some (.ret, s)) = bnd (resA P rs s) fun vs => some (.ret (leaveA n (tupleA vs) s.heap s.dirty).1 (leaveA n (tupleA vs) s.heap s.dirty).2) := by
  simp only [fin]; cases resA P rs s <;> rfl
theorem fin_normal (n : Nat) (rs : List ResultVar) (s : St) : fin P n rs (some (.normal, s)) = bnd (resA P rs s) fun vs => some (.ret (leaveA n (tupleA vs) s.heap s.dirty).1 (leaveA n (tupleA vs) s.heap s.dirty).2) := by
  simp only [fin]; cases resA P rs s <;> rfl
theorem fin_pan (n : Nat) (rs : List ResultVar) (v : AVal) (s : St) : fin P n rs (some (.pan v, s)) = some (.pan (leaveA n v s.heap s.dirty).1 (leaveA n v s.heap s.dirty).2) := rfl
theorem res_nil (s : St) : resA P [] s = some [] := rfl
theorem res_tmp (t : Tmp) (r : List ResultVar) (s : St) : resA P (.tmp t :: r) s = bnd s.tmps[t]? fun a => bnd (resA P r s) fun l => some (a :: l) := by
  simp only [resA]
  cases s.tmps[t]? with
  | none => rfl
  | some a => cases resA P r s <;> rfl
theorem res_cell (a : Tmp) (t : TypeId) (r : List ResultVar) (s : St) : resA P (.cell a t :: r) s = bnd s.tmps[a]? fun p => bnd (loadA P s.heap t p) fun a => bnd (resA P r s) fun l => some (a :: l) := by
  simp only [resA]
  cases s.tmps[a]? with
  | none => rfl
  | some p => simp only [bnd]; cases loadA P s.heap t p with
    | none => rfl
    | some v => cases resA P r s <;> rfl
theorem leave_pure1 (v : AVal) (h : AHeap) (d : List Nat) (hr : refs (strip3 v) = []) : (leaveA 0 v h d).1 = strip3 v := by rw [leave_pure v h d hr]
theorem leave_pure2 (v : AVal) (h : AHeap) (d : List Nat) (hr : refs (strip3 v) = []) : (leaveA 0 v h d).2 = .same := by rw [leave_pure v h d hr]
end
end Go.Ab
/- Values: equations by which they are reckoned. -/
namespace Go.Ab
section
variable (P : Program) (cmp : List TypeId) (t : TypeId) (n : Bool) (k : IntKind) (a b : Int) (s u : List UInt8) (ts : List AVal) (h : AHeap)
theorem guard_eq (ops : List Oper) (j : Nat) (w : Bool) : guardB ops j w ts = bnd ops[j]? fun oj => bnd oj.dst fun d => bnd ts[d]? (wantV w) := rfl
theorem wantV_bool (w x : Bool) : wantV w (.bool x) = some (x == w) := rfl
theorem wantV_undef (w : Bool) : wantV w .undef = some false := rfl
theorem c_tmp (i : Tmp) : constA (.tmp i) ts = ts[i]? := rfl
theorem c_bool (x : Bool) : constA (.const (.bool x)) ts = some (.bool x) := rfl
theorem c_int (x : Int) : constA (.const (.int k x)) ts = some (.int k x) := rfl
theorem c_str (x : ByteArray) : constA (.const (.string x)) ts = some (.str x.data.toList) := rfl
theorem c_nilp : constA (.const (.pointer none)) ts = some .nilp := rfl
theorem c_nils : constA (.const (.slice none 0 0)) ts = some (.slice [] .full) := rfl
theorem c_nilf : constA (.const .nilFunc) ts = some .nilf := rfl
theorem c_nili : constA (.const .nilIface) ts = some .nili := rfl
theorem c_func (f : FuncId) : constA (.func f) ts = some (.func f [] []) := rfl
theorem c_agg (cs : Array Value) : constA (.const (.agg cs)) ts = (ofVs cs.toList).map .agg := rfl
theorem ofVs_nil : ofVs [] = some [] := rfl
theorem ofVs_cons (v : Value) (r : List Value) : ofVs (v :: r) = bnd (ofV0 v) fun a => bnd (ofVs r) fun l => some (a :: l) := by
  simp only [ofVs]; cases ofV0 v with
  | none => rfl
  | some a => cases ofVs r <;> rfl
theorem ofV0_bool (x : Bool) : ofV0 (.bool x) = some (.bool x) := rfl
theorem ofV0_int (x : Int) : ofV0 (.int k x) = some (.int k x) := rfl
theorem ofV0_str (x : ByteArray) : ofV0 (.string x) = some (.str x.data.toList) := rfl
theorem ofV0_nils : ofV0 (.slice none 0 0) = some (.slice [] .full) := rfl
theorem ofV0_nilp : ofV0 (.pointer none) = some .nilp := rfl
theorem ofV0_nilf : ofV0 .nilFunc = some .nilf := rfl
theorem ofV0_nili : ofV0 .nilIface = some .nili := rfl
theorem args_nil : argsA ts [] = some [] := rfl
theorem args_cons (o : Operand) (r : List Operand) : argsA ts (o :: r) = bnd (constA o ts) fun a => bnd (argsA ts r) fun l => some (a :: l) := by
  simp only [argsA]; cases constA o ts with
  | none => rfl
  | some a => cases argsA ts r <;> rfl
theorem parts_nil : partsA ts [] = some [] := rfl
theorem parts_cons (i : Nat) (o : Operand) (r : List (Nat × Operand)) : partsA ts ((i, o) :: r) = bnd (constA o ts) fun a => bnd (partsA ts r) fun l => some ((i, a) :: l) := by
  simp only [partsA]; cases constA o ts with
  | none => rfl
  | some a => cases partsA ts r <;> rfl
theorem opt_none : optA ts none = some none := rfl
theorem opt_some (o : Operand) : optA ts (some o) = (constA o ts).map some := rfl
theorem set_some (d : Tmp) (v : AVal) : setT ts (some d) v = ts.set d v := rfl
theorem set_none (v : AVal) : setT ts none v = ts := rfl
theorem cells_agg (cs : List AVal) : (AVal.agg cs).cells = cs := rfl
theorem cells_int : (AVal.int k a).cells = [.int k a] := rfl
theorem cells_bool (x : Bool) : (AVal.bool x).cells = [.bool x] := rfl
theorem cells_str : (AVal.str s).cells = [.str s] := rfl
theorem cells_slice (es : List (List AVal)) (tk : Tk) : (AVal.slice es tk).cells = [.slice es tk] := rfl
theorem cells_ptr (p q : Nat) : (AVal.ptr p q).cells = [.ptr p q] := rfl
theorem cells_nilp : AVal.nilp.cells = [.nilp] := rfl
theorem cells_func (f : FuncId) (p q : List AVal) : (AVal.func f p q).cells = [.func f p q] := rfl
theorem cells_nilf : AVal.nilf.cells = [.nilf] := rfl
theorem cells_iface (ty : TypeId) (v : AVal) : (AVal.iface ty v).cells = [.iface ty v] := rfl
theorem cells_nili : AVal.nili.cells = [.nili] := rfl
def inBox (x : Option Blk) (f : List AVal → Option AVal) : Option AVal := match x with | some (.box cs) => f cs | _ => none
theorem inBox_box (cs : List AVal) (f : List AVal → Option AVal) : inBox (some (.box cs)) f = f cs := rfl
theorem load_ptr (p o : Nat) : loadA P h t (.ptr p o) = inBox h[p]? fun cs => partA P t cs o := by
  simp only [loadA]; cases h[p]? with
  | none => rfl
  | some x => cases x <;> rfl
theorem load_eptr (cs : List AVal) (o : Nat) : loadA P h t (.eptr cs o) = partA P t cs o := rfl
/-- A part, the type being known. -/
def partS (agg : Option Bool) (size : Option Nat) (cs : List AVal) (off : Nat) : Option AVal := match agg, size with
  | some true, some n => if (List.take n (List.drop off cs)).length = n then some (.agg (List.take n (List.drop off cs))) else none
  | some false, some 1 => cs[off]?
  | _, _ => none
theorem part_eq (cs : List AVal) (off : Nat) : partA P t cs off = partS (aggA P t) (sizeA P t) cs off := rfl
theorem partS_one (cs : List AVal) (off : Nat) : partS (some false) (some 1) cs off = cs[off]? := rfl
theorem partS_agg (m : Nat) (cs : List AVal) (off : Nat) (hl : off + m ≤ cs.length) : partS (some true) (some m) cs off = some (.agg (List.take m (List.drop off cs))) := by
  simp only [partS]
  rw [if_pos (by rw [List.length_take, List.length_drop]; omega)]
def storeS (size : Option Nat) (p off : Nat) (cs : List AVal) (v : List AVal) (h : AHeap) : Option (AHeap × Nat) := match size with
  | some m => if v.length = m && v.all oneA then (setCells cs off v).map fun cs => (h.set p (.box cs), p) else none
  | none => none
def inBoxS (x : Option Blk) (f : List AVal → Option (AHeap × Nat)) : Option (AHeap × Nat) := match x with | some (.box cs) => f cs | _ => none
theorem inBoxS_box (cs : List AVal) (f : List AVal → Option (AHeap × Nat)) : inBoxS (some (.box cs)) f = f cs := rfl
theorem store_ptr (p o : Nat) (v : AVal) : storeA P h t (.ptr p o) v = inBoxS h[p]? fun cs => storeS (sizeA P t) p o cs v.cells h := by
  simp only [storeA, storeS]
  cases h[p]? with
  | none => rfl
  | some x => cases x with
    | tok => rfl
    | box cs => simp only [inBoxS]; cases sizeA P t <;> rfl
theorem storeS_ok (m p off : Nat) (cs v : List AVal) (hl : v.length = m) (ho : v.all oneA = true) : storeS (some m) p off cs v h = (setCells cs off v).map fun cs => (h.set p (.box cs), p) := by
  simp only [storeS]; rw [if_pos (by simp [hl, ho])]
theorem len_str (hs : s.length ≤ lenTop) : lenA (some .string) (.str s) = some (.val (.int .i64 s.length) .same) := by
  simp only [lenA]; rw [if_pos (by unfold lenTop at hs; unfold strMax; omega)]
theorem len_slice (es : List (List AVal)) (tk : Tk) (e : TypeId) : lenA (some (.slice e)) (.slice es tk) = some (.val (.int .i64 es.length) .same) := rfl
theorem bin_add : binA P cmp .add t n (.int k a) (.int k b) = some (.int k (wrapF k (a + b))) := by simp [binA, intBin]
theorem bin_sub : binA P cmp .sub t n (.int k a) (.int k b) = some (.int k (wrapF k (a - b))) := by simp [binA, intBin]
theorem bin_mul : binA P cmp .mul t n (.int k a) (.int k b) = some (.int k (wrapF k (a * b))) := by simp [binA, intBin]
theorem bin_quo (hb : ¬ b = 0) : binA P cmp .quo t n (.int k a) (.int k b) = some (.int k (wrapF k (a.tdiv b))) := by simp [binA, intBin, hb]
theorem bin_rem (hb : ¬ b = 0) : binA P cmp .rem t n (.int k a) (.int k b) = some (.int k (a.tmod b)) := by simp [binA, intBin, hb]
theorem bin_eql : binA P cmp .eql t n (.int k a) (.int k b) = some (.bool (a == b)) := by simp [binA, intBin]
theorem bin_neq : binA P cmp .neq t n (.int k a) (.int k b) = some (.bool (a != b)) := by simp [binA, intBin]
theorem bin_lss : binA P cmp .lss t n (.int k a) (.int k b) = some (.bool (decide (a < b))) := by simp [binA, intBin]
theorem bin_leq : binA P cmp .leq t n (.int k a) (.int k b) = some (.bool (decide (a ≤ b))) := by simp [binA, intBin]
theorem bin_gtr : binA P cmp .gtr t n (.int k a) (.int k b) = some (.bool (decide (b < a))) := by simp [binA, intBin]
theorem bin_geq : binA P cmp .geq t n (.int k a) (.int k b) = some (.bool (decide (b ≤ a))) := by simp [binA, intBin]
theorem bin_or : binA P cmp .or t n (.int k a) (.int k b) = some (.int k (k.wrap ((BitVec.ofInt k.bits a) ||| (BitVec.ofInt k.bits b)).toNat)) := by simp [binA, intBin]
theorem bin_cat (hl : s.length + u.length ≤ strMax) : binA P cmp .add t n (.str s) (.str u) = some (.str (s ++ u)) := by simp [binA, hl]
theorem bin_seql : binA P cmp .eql t n (.str s) (.str u) = some (.bool (s == u)) := rfl
theorem bin_sneq : binA P cmp .neq t n (.str s) (.str u) = some (.bool (!(s == u))) := rfl
theorem un_not (x : Bool) : unA .not (.bool x) = some (.bool (!x)) := rfl
theorem un_neg : unA .neg (.int k a) = some (.int k (wrapF k (0 - a))) := rfl
theorem max_int : maxA [.int k a, .int k b] = some (.int k (if a < b then b else a)) := by simp [maxA]
theorem min_int : minA [.int k a, .int k b] = some (.int k (if b < a then b else a)) := by simp [minA]
def idxS (b : Bool) (x : Option (List AVal)) (m : Option Nat) : Option OR := match x, m with
  | some cs, some m => if b && cs.length == m then some (.val (.eptr cs 0) .same) else none
  | _, _ => none
theorem ia_slice (es : List (List AVal)) (tk : Tk) (e : TypeId) : indexAddrA P (some (.slice e)) (.slice es tk) (.int k a) = idxS (decide (0 ≤ a)) es[a.toNat]? (sizeA P e) := by
  simp only [indexAddrA, idxS]
  cases es[a.toNat]? with
  | none => rfl
  | some cs => cases sizeA P e <;> rfl
theorem idxS_ok (m : Nat) (cs : List AVal) (hm : cs.length = m) : idxS true (some cs) (some m) = some (.val (.eptr cs 0) .same) := by simp [idxS, hm]
def ixS (b : Bool) (x : Option UInt8) : Option OR := match x with
  | some c => if b then some (.val (.int .u8 c.toNat) .same) else none
  | none => none
theorem ix_str : indexA P (some .string) (.str s) (.int k a) = ixS (decide (0 ≤ a)) s[a.toNat]? := by
  simp only [indexA, ixS]
  cases s[a.toNat]? with
  | none => rfl
  | some c => by_cases h : 0 ≤ a <;> simp [h]
theorem ixS_ok (c : UInt8) : ixS true (some c) = some (.val (.int .u8 c.toNat) .same) := rfl
theorem arg_int : argA (.int k a) = .int k a := rfl
theorem arg_bool (x : Bool) : argA (.bool x) = .bool x := rfl
theorem arg_str : argA (.str s) = .str s := rfl
theorem arg_slice (es : List (List AVal)) (tk : Tk) : argA (.slice es tk) = .slice es tk := rfl
theorem arg_ptr (p q : Nat) : argA (.ptr p q) = .ptr p q := rfl
theorem arg_func (f : FuncId) (p q : List AVal) : argA (.func f p q) = .func f p q := rfl
theorem arg_agg (cs : List AVal) : argA (.agg cs) = .agg (cs.map strip0) := rfl
theorem strip_int : strip3 (.int k a) = .int k a := rfl
theorem strip_bool (x : Bool) : strip3 (.bool x) = .bool x := rfl
theorem strip_str : strip3 (.str s) = .str s := rfl
theorem strip_slice (es : List (List AVal)) (tk : Tk) : strip3 (.slice es tk) = .slice es .free := rfl
theorem strip_agg (cs : List AVal) : strip3 (.agg cs) = .agg (cs.map strip0) := rfl
theorem strip_tuple (vs : List AVal) : strip3 (.tuple vs) = .tuple (vs.map strip2) := rfl
theorem strip2_int : strip2 (.int k a) = .int k a := rfl
theorem strip2_bool (x : Bool) : strip2 (.bool x) = .bool x := rfl
theorem strip2_str : strip2 (.str s) = .str s := rfl
theorem strip2_slice (es : List (List AVal)) (tk : Tk) : strip2 (.slice es tk) = .slice es .free := rfl
theorem strip2_agg (cs : List AVal) : strip2 (.agg cs) = .agg (cs.map strip0) := rfl
theorem refs_int : refs (.int k a) = [] := rfl
theorem refs_bool (x : Bool) : refs (.bool x) = [] := rfl
theorem refs_str : refs (.str s) = [] := rfl
theorem refs_free (es : List (List AVal)) : refs (.slice es .free) = [] := rfl
theorem refs_full (es : List (List AVal)) : refs (.slice es .full) = [] := rfl
theorem refs_agg' (cs : List AVal) : refs (.agg cs) = refsL cs := rfl
theorem refs_tuple (cs : List AVal) : refs (.tuple cs) = refsL cs := rfl
theorem refsL_nil : refsL [] = [] := rfl
theorem refsL_cons (v : AVal) (r : List AVal) : refsL (v :: r) = refs v ++ refsL r := rfl
theorem tuple_one (v : AVal) : tupleA [v] = v := rfl
theorem tuple_nil : tupleA [] = .tuple [] := rfl
theorem tuple_two (v w : AVal) (r : List AVal) : tupleA (v :: w :: r) = .tuple (v :: w :: r) := rfl
theorem of_same : Eff.of h .same = h := rfl
theorem of_heap (h' : AHeap) (d : List Nat) : Eff.of h (.heap h' d) = h' := rfl
theorem isSame_same : Eff.isSame .same = true := rfl
theorem pure_int : pureA (.int k a) = true := rfl
theorem pure_bool (x : Bool) : pureA (.bool x) = true := rfl
theorem pure_str : pureA (.str s) = true := rfl
theorem pure_free (es : List (List AVal)) : pureA (.slice es .free) = true := rfl
theorem one_int : oneA (.int k a) = true := rfl
theorem one_bool (x : Bool) : oneA (.bool x) = true := rfl
theorem one_str : oneA (.str s) = true := rfl
theorem one_slice (es : List (List AVal)) (tk : Tk) : oneA (.slice es tk) = true := rfl
theorem one_ptr (p q : Nat) : oneA (.ptr p q) = true := rfl
theorem one_func (f : FuncId) (p q : List AVal) : oneA (.func f p q) = true := rfl
theorem heap_at0 (H L : AHeap) : (H ++ L)[H.length]? = L[0]? := by
  rw [List.getElem?_append_right (Nat.le_refl _)]; simp
theorem heap_at (H L : AHeap) (n : Nat) : (H ++ L)[H.length + n]? = L[n]? := by
  rw [List.getElem?_append_right (Nat.le_add_right _ _)]; simp
theorem set_at0 (H L : AHeap) (x : Blk) : (H ++ L).set H.length x = H ++ L.set 0 x := by
  rw [List.set_append_right _ _ (Nat.le_refl _)]; simp
theorem set_at (H L : AHeap) (n : Nat) (x : Blk) : (H ++ L).set (H.length + n) x = H ++ L.set n x := by
  rw [List.set_append_right _ _ (Nat.le_add_right _ _)]; simp
theorem n_lt0 (n : Nat) : (0 < n + 1) = True := by simp
theorem n_lts (m n : Nat) : (m + 1 < n + 1) = (m < n) := by simp
theorem n_le0 (n : Nat) : (0 ≤ n) = True := by simp
theorem n_les (m n : Nat) : (m + 1 ≤ n + 1) = (m ≤ n) := by simp
theorem n_lea (m n : Nat) : (m ≤ m + n) = True := by simp
theorem n_lta (m n : Nat) : (m < m + (n + 1)) = True := by simp
section
variable (lim : Nat) (ops : List Oper) (j : Nat) (dst : Option Tmp) (ty : TypeId) (pos : String) (after : Array Edge) (gd : Option (Nat × Bool)) (s : St) (f : Eff)
theorem ask_move (x : Operand) : askD lim ops j ⟨dst, .move x, ty, pos, after, gd⟩ s f = true := rfl
theorem ask_assign (x : Operand) : askD lim ops j ⟨dst, .assign x, ty, pos, after, gd⟩ s f = true := rfl
theorem ask_pick (x y z : Operand) : askD lim ops j ⟨dst, .pick x y z, ty, pos, after, gd⟩ s f = true := rfl
theorem ask_build (t : TypeId) (ps : Array (Nat × Operand)) : askD lim ops j ⟨dst, .build t ps, ty, pos, after, gd⟩ s f = true := rfl
theorem ask_buildSlice (t : TypeId) (m : Nat) (ps : Array (Nat × Operand)) : askD lim ops j ⟨dst, .buildSlice t m ps, ty, pos, after, gd⟩ s f = true := rfl
theorem ask_nilCheck (x : Operand) : askD lim ops j ⟨dst, .nilCheck x, ty, pos, after, gd⟩ s f = true := rfl
theorem ask_binOp (o : BinOp) (t t2 : TypeId) (x y : Operand) : askD lim ops j ⟨dst, .binOp o t x y t2, ty, pos, after, gd⟩ s f = true := rfl
theorem ask_unOp (o : UnOp) (t : TypeId) (x : Operand) : askD lim ops j ⟨dst, .unOp o t x, ty, pos, after, gd⟩ s f = true := rfl
theorem ask_convert (t t2 : TypeId) (x : Operand) : askD lim ops j ⟨dst, .convert t t2 x, ty, pos, after, gd⟩ s f = true := rfl
theorem ask_makeInterface (t : TypeId) (x : Operand) : askD lim ops j ⟨dst, .makeInterface t x, ty, pos, after, gd⟩ s f = true := rfl
theorem ask_makeFunc (x : Fn) (p q : Array Operand) : askD lim ops j ⟨dst, .makeFunc x p q, ty, pos, after, gd⟩ s f = true := rfl
theorem ask_slice (t : TypeId) (x : Operand) (p q r : Option Operand) : askD lim ops j ⟨dst, .slice t x p q r, ty, pos, after, gd⟩ s f = true := rfl
theorem ask_fieldAddr (t : TypeId) (x : Operand) (m : Nat) : askD lim ops j ⟨dst, .fieldAddr t x m, ty, pos, after, gd⟩ s f = true := rfl
theorem ask_field (t : TypeId) (x : Operand) (m : Nat) : askD lim ops j ⟨dst, .field t x m, ty, pos, after, gd⟩ s f = true := rfl
theorem ask_indexAddr (t : TypeId) (x y : Operand) : askD lim ops j ⟨dst, .indexAddr t x y, ty, pos, after, gd⟩ s f = true := rfl
theorem ask_index (t : TypeId) (x y : Operand) : askD lim ops j ⟨dst, .index t x y, ty, pos, after, gd⟩ s f = true := rfl
theorem ask_extract (x : Operand) (m : Nat) : askD lim ops j ⟨dst, .extract x m, ty, pos, after, gd⟩ s f = true := rfl
def askL (lim : Nat) : Option AVal → Bool
  | some (.ptr b _) => b < lim
  | _ => true
theorem askL_ptr (b o : Nat) : askL lim (some (.ptr b o)) = decide (b < lim) := rfl
theorem askL_eptr (cs : List AVal) (o : Nat) : askL lim (some (.eptr cs o)) = true := rfl
theorem ask_load (t : TypeId) (x : Operand) : askD lim ops j ⟨dst, .load t x, ty, pos, after, gd⟩ s f = askL lim (constA x s.tmps) := by
  simp only [askD, cls, askL]
  cases constA x s.tmps with
  | none => rfl
  | some a => cases a <;> rfl
/-- A store: does each of its edges bind, and where does it go. -/
def bindsAll : List Edge → Bool
  | [] => true
  | e :: r => Go.Region.binds .any e && bindsAll r
theorem bindsAll_nil : bindsAll [] = true := rfl
theorem ba_data (n : Nat) (r : List Edge) : bindsAll (⟨n, .data⟩ :: r) = bindsAll r := rfl
theorem ba_chain (n : Nat) (r : List Edge) : bindsAll (⟨n, .chain⟩ :: r) = bindsAll r := rfl
theorem ba_guard (n : Nat) (r : List Edge) : bindsAll (⟨n, .guard⟩ :: r) = bindsAll r := rfl
theorem ba_phase (n : Nat) (r : List Edge) : bindsAll (⟨n, .phase⟩ :: r) = bindsAll r := rfl
theorem ba_text (n : Nat) (d : Departure) (r : List Edge) : bindsAll (⟨n, .textOnly d⟩ :: r) = false := rfl
theorem ba_gc (n : Nat) (d : Departure) (r : List Edge) : bindsAll (⟨n, .gcOnly d⟩ :: r) = false := rfl
theorem bindsAll_eq (l : List Edge) : l.all (Go.Region.binds .any) = bindsAll l := by
  induction l with
  | nil => rfl
  | cons e r ih => simp only [List.all_cons, bindsAll, ih]
def askW (lim : Nat) (b : Bool) : Option AVal → Bool
  | some (.ptr c _) => b || decide (lim ≤ c)
  | _ => b
theorem askW_true (v : Option AVal) : askW lim true v = true := by
  unfold askW; split <;> rfl
theorem askW_ptr (b : Bool) (c o : Nat) : askW lim b (some (.ptr c o)) = (b || decide (lim ≤ c)) := rfl
theorem ask_store (t : TypeId) (x y : Operand) : askD lim ops j ⟨dst, .store t x y, ty, pos, after, gd⟩ s f = askW lim (bindsAll after.toList) (constA x s.tmps) := by
  simp only [askD, cls, askW, departsO, Bool.not_not, bindsAll_eq]
  cases constA x s.tmps with
  | none => simp
  | some a => cases a <;> simp
theorem ask_alloc (t : TypeId) : askD lim ops j ⟨dst, .alloc t, ty, pos, after, gd⟩ s f = decide (lim ≤ s.heap.length) := rfl
theorem ask_box (t : TypeId) (x : Operand) : askD lim ops j ⟨dst, .box t x, ty, pos, after, gd⟩ s f = decide (lim ≤ s.heap.length) := rfl
theorem ask_append (a : Array Operand) (ts : Array TypeId) : askD lim ops j ⟨dst, .call { callee := .builtin .append, args := a, argTypes := ts }, ty, pos, after, gd⟩ s f = decide (lim ≤ s.heap.length) := rfl
theorem ask_len (a : Array Operand) (ts : Array TypeId) : askD lim ops j ⟨dst, .call { callee := .builtin .len, args := a, argTypes := ts }, ty, pos, after, gd⟩ s f = true := rfl
theorem ask_max (a : Array Operand) (ts : Array TypeId) : askD lim ops j ⟨dst, .call { callee := .builtin .max, args := a, argTypes := ts }, ty, pos, after, gd⟩ s f = true := rfl
theorem ask_min (a : Array Operand) (ts : Array TypeId) : askD lim ops j ⟨dst, .call { callee := .builtin .min, args := a, argTypes := ts }, ty, pos, after, gd⟩ s f = true := rfl
theorem ask_call (x : Operand) (a : Array Operand) (ts : Array TypeId) : askD lim ops j ⟨dst, .call { callee := .value x, args := a, argTypes := ts }, ty, pos, after, gd⟩ s f = (f.isSame || soloOk ops j) := rfl
end
structure AppOk (P : Program) (t e sz : Nat) : Prop where
  el : elemA P t = some e
  si : sizeA P e = some sz
  re : ∃ n by_ z, sz = n + 1 ∧ bytesA P e = some by_ ∧ zeroA P e = some z ∧ (0 < by_ && by_ ≤ 128 && z.cells.length == n + 1) = true
variable {P t}
theorem app_full {e sz : Nat} (ok : AppOk P t e sz) {es fs : List (List AVal)} {tk' : Tk} (hl : es.length + fs.length ≤ lenTop) (he1 : headOk sz es = true) (hf1 : headOk sz fs = true) (hne : ¬ fs = []) :
    appendA P h t (.slice es .full) (.slice fs tk') = some (.slice (es ++ fs) (.own h.length), .heap (h ++ [.tok (es.length + fs.length) e]) []) := by
  obtain ⟨he, hs, n, by_, z, rfl, hb, hz, hc⟩ := ok
  simp only [Bool.and_eq_true, decide_eq_true_eq] at hc
  have hl' : es.length + fs.length ≤ lenMax := hl
  simp only [appendA, he, hs, hb, hz, hl', he1, hf1, hc]
  cases fs with
  | nil => exact absurd rfl hne
  | cons f r => rfl
theorem app_nil {e sz : Nat} (ok : AppOk P t e sz) {es : List (List AVal)} {tk tk' : Tk} (hl : es.length ≤ lenTop) (he1 : headOk sz es = true) :
    appendA P h t (.slice es tk) (.slice [] tk') = some (.slice es tk, .same) := by
  obtain ⟨he, hs, n, by_, z, rfl, hb, hz, hc⟩ := ok
  simp only [Bool.and_eq_true, decide_eq_true_eq] at hc
  have hl' : es.length ≤ lenMax := hl
  have h0 : headOk (n + 1) ([] : List (List AVal)) = true := rfl
  simp [appendA, he, hs, hb, hz, hl', he1, hc, h0]
theorem app_own {e sz : Nat} (ok : AppOk P t e sz) {es fs : List (List AVal)} {tk' : Tk} {p : Nat}
    (hl : es.length + fs.length ≤ lenTop) (he1 : headOk sz es = true) (hf1 : headOk sz fs = true) (hne : ¬ fs = []) (hp : h[p]? = some (.tok es.length e)) (ht : (tk' == .own p) = false) :
    appendA P h t (.slice es (.own p)) (.slice fs tk') = some (.slice (es ++ fs) (.own p), .heap (h.set p (.tok (es.length + fs.length) e)) [p]) := by
  obtain ⟨he, hs, n, by_, z, rfl, hb, hz, hc⟩ := ok
  simp only [Bool.and_eq_true, decide_eq_true_eq] at hc
  have hl' : es.length + fs.length ≤ lenMax := hl
  simp only [appendA, he, hs, hb, hz, hl', he1, hf1, hc]
  cases fs with
  | nil => exact absurd rfl hne
  | cons f r => simp [hp, ht]
def zc (z : Option AVal) : List AVal := match z with | some z => z.cells | none => []
theorem zc_some (z : AVal) : zc (some z) = z.cells := rfl
theorem bs_ok {e sz : Nat} (ok : AppOk P t e sz) (cmp : List TypeId) (call : Call) (dst : Option Tmp) (ty : TypeId) (pos : String) (after : Array Edge) (gd : Option (Nat × Bool)) (ts : List AVal) (h : AHeap) (n : Nat) (ps : Array (Nat × Operand)) (hn : n * sz ≤ 65536) :
    opA P cmp call ⟨dst, .buildSlice t n ps, ty, pos, after, gd⟩ ts h =
    bnd (partsA ts ps.toList) fun us => bnd (fillA (fun i => some (i * sz, sz)) (List.replicate n (zc (zeroA P e))).flatten us) fun cs => bnd (elemsA (chop sz n cs)) fun es => some (.val (.slice es .full) .same) := by
  obtain ⟨he, hs, m, by_, z, rfl, hb, hz, hc⟩ := ok
  simp only [Bool.and_eq_true, decide_eq_true_eq] at hc
  rw [op_buildSlice (he := he) (hs := hs) (hz := hz) (hn := by simp [hn, hc.2]), hz]
  rfl
end
section
def fillS (b : Bool) (x : Option (List AVal)) (k : List AVal → Option (List AVal)) : Option (List AVal) := if b then bnd x k else none
theorem fillS_true (x : Option (List AVal)) (k : List AVal → Option (List AVal)) : fillS true x k = bnd x k := rfl
theorem fill_nil (p : Nat → Option (Nat × Nat)) (cs : List AVal) : fillA p cs [] = some cs := rfl
theorem fill_cons (p : Nat → Option (Nat × Nat)) (cs : List AVal) (i : Nat) (v : AVal) (r : List (Nat × AVal)) :
    fillA p cs ((i, v) :: r) = bnd (p i) fun q => fillS (v.cells.length == q.2) (setCells cs q.1 v.cells) fun cs => fillA p cs r := by
  simp only [fillA]
  cases p i with
  | none => rfl
  | some q =>
    obtain ⟨a, b⟩ := q
    simp only [bnd, fillS, beq_iff_eq]
    split
    · cases setCells cs a v.cells <;> rfl
    · rfl
theorem setc_zero (cs vs : List AVal) (h : vs.length ≤ cs.length) : setCells cs 0 vs = some (vs ++ cs.drop vs.length) := by
  cases cs <;> simp only [setCells] <;> rw [if_pos h]
theorem setc_succ (c : AVal) (cs vs : List AVal) (n : Nat) : setCells (c :: cs) (n + 1) vs = (setCells cs n vs).map (c :: ·) := rfl
theorem chop_zero (s : Nat) (cs : List AVal) : chop s 0 cs = [] := rfl
theorem chop_succ (s n : Nat) (cs : List AVal) : chop s (n + 1) cs = cs.take s :: chop s n (cs.drop s) := rfl
theorem elems_nil : elemsA [] = some [] := rfl
theorem elems_cons (c : List AVal) (r : List (List AVal)) : elemsA (c :: r) = bnd (elemCells c) fun c => bnd (elemsA r) fun r => some (c :: r) := by
  simp only [elemsA]; cases elemCells c with
  | none => rfl
  | some c => cases elemsA r <;> rfl
def elemS (b : Bool) (cs : List AVal) : Option (List AVal) := if b then some cs else none
theorem elemS_true (cs : List AVal) : elemS true cs = some cs := rfl
theorem elem_eq (cs : List AVal) : elemCells cs = elemS ((cs.map strip0).all pureA) (cs.map strip0) := rfl
theorem head_nil (s : Nat) : headOk s [] = true := rfl
theorem head_cons (s : Nat) (c : List AVal) (r : List (List AVal)) : headOk s (c :: r) = (c.length == s) := rfl
theorem tk_full (p : Nat) : (Tk.full == Tk.own p) = false := rfl
theorem tk_free (p : Nat) : (Tk.free == Tk.own p) = false := rfl
theorem s0_int (k : IntKind) (a : Int) : strip0 (.int k a) = .int k a := rfl
theorem s0_bool (x : Bool) : strip0 (.bool x) = .bool x := rfl
theorem s0_str (s : List UInt8) : strip0 (.str s) = .str s := rfl
theorem s0_slice (es : List (List AVal)) (tk : Tk) : strip0 (.slice es tk) = .slice es .free := rfl
theorem s0_ptr (p q : Nat) : strip0 (.ptr p q) = .ptr p q := rfl
theorem s0_func (f : FuncId) (p q : List AVal) : strip0 (.func f p q) = .func f p q := rfl
theorem s0_nilf : strip0 .nilf = .nilf := rfl
end
theorem lit_le : ((0 : Int) ≤ 0) = True ∧ ((0 : Int) ≤ 1) = True ∧ ((0 : Int) ≤ 2) = True ∧ ((0 : Int) ≤ 3) = True ∧ ((0 : Int) ≤ 4) = True ∧ ((0 : Int) ≤ 5) = True ∧ ((0 : Int) ≤ 6) = True ∧ ((0 : Int) ≤ 7) = True ∧ ((0 : Int) ≤ 8) = True ∧ ((0 : Int) ≤ 9) = True ∧ ((0 : Int) ≤ 10) = True ∧ ((0 : Int) ≤ 11) = True := by simp
theorem lit_nat : Int.toNat (0 : Int) = 0 ∧ Int.toNat (1 : Int) = 1 ∧ Int.toNat (2 : Int) = 2 ∧ Int.toNat (3 : Int) = 3 ∧ Int.toNat (4 : Int) = 4 ∧ Int.toNat (5 : Int) = 5 ∧ Int.toNat (6 : Int) = 6 ∧ Int.toNat (7 : Int) = 7 ∧ Int.toNat (8 : Int) = 8 ∧ Int.toNat (9 : Int) = 9 ∧ Int.toNat (10 : Int) = 10 ∧ Int.toNat (11 : Int) = 11 := by simp
end Go.Ab
