/- Values: equations by which they are reckoned. -/
import Derived.Test.YtnmejllfnndcbaaGreatDoorAbSimB
set_option linter.unusedSimpArgs false
set_option linter.unusedVariables false
namespace Go.Ab
section
variable (P : Program) (cmp : List TypeId) (t : TypeId) (n : Bool) (k : IntKind) (a b : Int) (s u : List UInt8) (ts : List AVal) (h : AHeap)
theorem guard_eq (ops : List Oper) (j : Nat) (w : Bool) : guardB ops j w ts = bnd ops[j]? fun oj => bnd oj.dst fun d => bnd ts[d]? (wantV w) := rfl
theorem wantV_bool (w x : Bool) : wantV w (.bool x) = some (x == w) := rfl
theorem wantV_undef (w : Bool) : wantV w .undef = some false := rfl
theorem c_tmp (i : Tmp) : constA (.tmp i) ts = ts[i]? := rfl
theorem c_bool (x : Bool) : constA (.const (.bool x)) ts = some (.bool x) := rfl
theorem c_int (x : Int) : constA (.const (.int k x)) ts = some (.int k x) := rfl
theorem c_str (x : ByteArray) : constA (.const (.string x)) ts = some (.str x.data.toList) := rfl
theorem c_nilp : constA (.const (.pointer none)) ts = some .nilp := rfl
theorem c_nils : constA (.const (.slice none 0 0)) ts = some (.slice [] .full) := rfl
theorem c_nilf : constA (.const .nilFunc) ts = some .nilf := rfl
theorem c_nili : constA (.const .nilIface) ts = some .nili := rfl
theorem c_func (f : FuncId) : constA (.func f) ts = some (.func f [] []) := rfl
theorem c_agg (cs : Array Value) : constA (.const (.agg cs)) ts = (ofVs cs.toList).map .agg := rfl
theorem ofVs_nil : ofVs [] = some [] := rfl
theorem ofVs_cons (v : Value) (r : List Value) : ofVs (v :: r) = bnd (ofV0 v) fun a => bnd (ofVs r) fun l => some (a :: l) := by
  simp only [ofVs]; cases ofV0 v with
  | none => rfl
  | some a => cases ofVs r <;> rfl
theorem ofV0_bool (x : Bool) : ofV0 (.bool x) = some (.bool x) := rfl
theorem ofV0_int (x : Int) : ofV0 (.int k x) = some (.int k x) := rfl
theorem ofV0_str (x : ByteArray) : ofV0 (.string x) = some (.str x.data.toList) := rfl
theorem ofV0_nils : ofV0 (.slice none 0 0) = some (.slice [] .full) := rfl
theorem ofV0_nilp : ofV0 (.pointer none) = some .nilp := rfl
theorem ofV0_nilf : ofV0 .nilFunc = some .nilf := rfl
theorem ofV0_nili : ofV0 .nilIface = some .nili := rfl
theorem args_nil : argsA ts [] = some [] := rfl
theorem args_cons (o : Operand) (r : List Operand) : argsA ts (o :: r) = bnd (constA o ts) fun a => bnd (argsA ts r) fun l => some (a :: l) := by
  simp only [argsA]; cases constA o ts with
  | none => rfl
  | some a => cases argsA ts r <;> rfl
theorem parts_nil : partsA ts [] = some [] := rfl
theorem parts_cons (i : Nat) (o : Operand) (r : List (Nat × Operand)) : partsA ts ((i, o) :: r) = bnd (constA o ts) fun a => bnd (partsA ts r) fun l => some ((i, a) :: l) := by
  simp only [partsA]; cases constA o ts with
  | none => rfl
  | some a => cases partsA ts r <;> rfl
theorem opt_none : optA ts none = some none := rfl
theorem opt_some (o : Operand) : optA ts (some o) = (constA o ts).map some := rfl
theorem set_some (d : Tmp) (v : AVal) : setT ts (some d) v = ts.set d v := rfl
theorem set_none (v : AVal) : setT ts none v = ts := rfl
theorem cells_agg (cs : List AVal) : (AVal.agg cs).cells = cs := rfl
theorem cells_int : (AVal.int k a).cells = [.int k a] := rfl
theorem cells_bool (x : Bool) : (AVal.bool x).cells = [.bool x] := rfl
theorem cells_str : (AVal.str s).cells = [.str s] := rfl
theorem cells_slice (es : List (List AVal)) (tk : Tk) : (AVal.slice es tk).cells = [.slice es tk] := rfl
theorem cells_ptr (p q : Nat) : (AVal.ptr p q).cells = [.ptr p q] := rfl
theorem cells_nilp : AVal.nilp.cells = [.nilp] := rfl
theorem cells_func (f : FuncId) (p q : List AVal) : (AVal.func f p q).cells = [.func f p q] := rfl
theorem cells_nilf : AVal.nilf.cells = [.nilf] := rfl
theorem cells_iface (ty : TypeId) (v : AVal) : (AVal.iface ty v).cells = [.iface ty v] := rfl
theorem cells_nili : AVal.nili.cells = [.nili] := rfl
def inBox (x : Option Blk) (f : List AVal → Option AVal) : Option AVal := match x with | some (.box cs) => f cs | _ => none
theorem inBox_box (cs : List AVal) (f : List AVal → Option AVal) : inBox (some (.box cs)) f = f cs := rfl
theorem load_ptr (p o : Nat) : loadA P h t (.ptr p o) = inBox h[p]? fun cs => partA P t cs o := by
  simp only [loadA]; cases h[p]? with
  | none => rfl
  | some x => cases x <;> rfl
theorem load_eptr (cs : List AVal) (o : Nat) : loadA P h t (.eptr cs o) = partA P t cs o := rfl
/-- A part, the type being known. -/
def partS (agg : Option Bool) (size : Option Nat) (cs : List AVal) (off : Nat) : Option AVal := match agg, size with
  | some true, some n => if (List.take n (List.drop off cs)).length = n then some (.agg (List.take n (List.drop off cs))) else none
  | some false, some 1 => cs[off]?
  | _, _ => none
theorem part_eq (cs : List AVal) (off : Nat) : partA P t cs off = partS (aggA P t) (sizeA P t) cs off := rfl
theorem partS_one (cs : List AVal) (off : Nat) : partS (some false) (some 1) cs off = cs[off]? := rfl
theorem partS_agg (m : Nat) (cs : List AVal) (off : Nat) (hl : off + m ≤ cs.length) : partS (some true) (some m) cs off = some (.agg (List.take m (List.drop off cs))) := by
  simp only [partS]
  rw [if_pos (by rw [List.length_take, List.length_drop]; omega)]
def storeS (size : Option Nat) (p off : Nat) (cs : List AVal) (v : List AVal) (h : AHeap) : Option (AHeap × Nat) := match size with
  | some m => if v.length = m && v.all oneA then (setCells cs off v).map fun cs => (h.set p (.box cs), p) else none
  | none => none
def inBoxS (x : Option Blk) (f : List AVal → Option (AHeap × Nat)) : Option (AHeap × Nat) := match x with | some (.box cs) => f cs | _ => none
theorem inBoxS_box (cs : List AVal) (f : List AVal → Option (AHeap × Nat)) : inBoxS (some (.box cs)) f = f cs := rfl
theorem store_ptr (p o : Nat) (v : AVal) : storeA P h t (.ptr p o) v = inBoxS h[p]? fun cs => storeS (sizeA P t) p o cs v.cells h := by
  simp only [storeA, storeS]
  cases h[p]? with
  | none => rfl
  | some x => cases x with
    | tok => rfl
    | box cs => simp only [inBoxS]; cases sizeA P t <;> rfl
theorem storeS_ok (m p off : Nat) (cs v : List AVal) (hl : v.length = m) (ho : v.all oneA = true) : storeS (some m) p off cs v h = (setCells cs off v).map fun cs => (h.set p (.box cs), p) := by
  simp only [storeS]; rw [if_pos (by simp [hl, ho])]
theorem len_str (hs : s.length ≤ lenTop) : lenA (some .string) (.str s) = some (.val (.int .i64 s.length) .same) := by
  simp only [lenA]; rw [if_pos (by unfold lenTop at hs; unfold strMax; omega)]
theorem len_slice (es : List (List AVal)) (tk : Tk) (e : TypeId) : lenA (some (.slice e)) (.slice es tk) = some (.val (.int .i64 es.length) .same) := rfl
theorem bin_add : binA P cmp .add t n (.int k a) (.int k b) = some (.int k (wrapF k (a + b))) := by simp [binA, intBin]
theorem bin_sub : binA P cmp .sub t n (.int k a) (.int k b) = some (.int k (wrapF k (a - b))) := by simp [binA, intBin]
theorem bin_mul : binA P cmp .mul t n (.int k a) (.int k b) = some (.int k (wrapF k (a * b))) := by simp [binA, intBin]
theorem bin_quo (hb : ¬ b = 0) : binA P cmp .quo t n (.int k a) (.int k b) = some (.int k (wrapF k (a.tdiv b))) := by simp [binA, intBin, hb]
theorem bin_rem (hb : ¬ b = 0) : binA P cmp .rem t n (.int k a) (.int k b) = some (.int k (a.tmod b)) := by simp [binA, intBin, hb]
theorem bin_eql : binA P cmp .eql t n (.int k a) (.int k b) = some (.bool (a == b)) := by simp [binA, intBin]
theorem bin_neq : binA P cmp .neq t n (.int k a) (.int k b) = some (.bool (a != b)) := by simp [binA, intBin]
theorem bin_lss : binA P cmp .lss t n (.int k a) (.int k b) = some (.bool (decide (a < b))) := by simp [binA, intBin]
theorem bin_leq : binA P cmp .leq t n (.int k a) (.int k b) = some (.bool (decide (a ≤ b))) := by simp [binA, intBin]
theorem bin_gtr : binA P cmp .gtr t n (.int k a) (.int k b) = some (.bool (decide (b < a))) := by simp [binA, intBin]
theorem bin_geq : binA P cmp .geq t n (.int k a) (.int k b) = some (.bool (decide (b ≤ a))) := by simp [binA, intBin]
theorem bin_or : binA P cmp .or t n (.int k a) (.int k b) = some (.int k (k.wrap ((BitVec.ofInt k.bits a) ||| (BitVec.ofInt k.bits b)).toNat)) := by simp [binA, intBin]
theorem bin_cat (hl : s.length + u.length ≤ strMax) : binA P cmp .add t n (.str s) (.str u) = some (.str (s ++ u)) := by simp [binA, hl]
theorem bin_seql : binA P cmp .eql t n (.str s) (.str u) = some (.bool (s == u)) := rfl
theorem bin_sneq : binA P cmp .neq t n (.str s) (.str u) = some (.bool (!(s == u))) := rfl
theorem un_not (x : Bool) : unA .not (.bool x) = some (.bool (!x)) := rfl
theorem un_neg : unA .neg (.int k a) = some (.int k (wrapF k (0 - a))) := rfl
theorem max_int : maxA [.int k a, .int k b] = some (.int k (if a < b then b else a)) := by simp [maxA]
theorem min_int : minA [.int k a, .int k b] = some (.int k (if b < a then b else a)) := by simp [minA]
def idxS (b : Bool) (x : Option (List AVal)) (m : Option Nat) : Option OR := match x, m with
  | some cs, some m => if b && cs.length == m then some (.val (.eptr cs 0) .same) else none
  | _, _ => none
theorem ia_slice (es : List (List AVal)) (tk : Tk) (e : TypeId) : indexAddrA P (some (.slice e)) (.slice es tk) (.int k a) = idxS (decide (0 ≤ a)) es[a.toNat]? (sizeA P e) := by
  simp only [indexAddrA, idxS]
  cases es[a.toNat]? with
  | none => rfl
  | some cs => cases sizeA P e <;> rfl
theorem idxS_ok (m : Nat) (cs : List AVal) (hm : cs.length = m) : idxS true (some cs) (some m) = some (.val (.eptr cs 0) .same) := by simp [idxS, hm]
def ixS (b : Bool) (x : Option UInt8) : Option OR := match x with
  | some c => if b then some (.val (.int .u8 c.toNat) .same) else none
  | none => none
theorem ix_str : indexA P (some .string) (.str s) (.int k a) = ixS (decide (0 ≤ a)) s[a.toNat]? := by
  simp only [indexA, ixS]
  cases s[a.toNat]? with
  | none => rfl
  | some c => by_cases h : 0 ≤ a <;> simp [h]
theorem ixS_ok (c : UInt8) : ixS true (some c) = some (.val (.int .u8 c.toNat) .same) := rfl
theorem arg_int : argA (.int k a) = .int k a := rfl
theorem arg_bool (x : Bool) : argA (.bool x) = .bool x := rfl
theorem arg_str : argA (.str s) = .str s := rfl
theorem arg_slice (es : List (List AVal)) (tk : Tk) : argA (.slice es tk) = .slice es tk := rfl
theorem arg_ptr (p q : Nat) : argA (.ptr p q) = .ptr p q := rfl
theorem arg_func (f : FuncId) (p q : List AVal) : argA (.func f p q) = .func f p q := rfl
theorem arg_agg (cs : List AVal) : argA (.agg cs) = .agg (cs.map strip0) := rfl
theorem strip_int : strip3 (.int k a) = .int k a := rfl
theorem strip_bool (x : Bool) : strip3 (.bool x) = .bool x := rfl
theorem strip_str : strip3 (.str s) = .str s := rfl
theorem strip_slice (es : List (List AVal)) (tk : Tk) : strip3 (.slice es tk) = .slice es .free := rfl
theorem strip_agg (cs : List AVal) : strip3 (.agg cs) = .agg (cs.map strip0) := rfl
theorem strip_tuple (vs : List AVal) : strip3 (.tuple vs) = .tuple (vs.map strip2) := rfl
theorem strip2_int : strip2 (.int k a) = .int k a := rfl
theorem strip2_bool (x : Bool) : strip2 (.bool x) = .bool x := rfl
theorem strip2_str : strip2 (.str s) = .str s := rfl
theorem strip2_slice (es : List (List AVal)) (tk : Tk) : strip2 (.slice es tk) = .slice es .free := rfl
theorem strip2_agg (cs : List AVal) : strip2 (.agg cs) = .agg (cs.map strip0) := rfl
theorem refs_int : refs (.int k a) = [] := rfl
theorem refs_bool (x : Bool) : refs (.bool x) = [] := rfl
theorem refs_str : refs (.str s) = [] := rfl
theorem refs_free (es : List (List AVal)) : refs (.slice es .free) = [] := rfl
theorem refs_full (es : List (List AVal)) : refs (.slice es .full) = [] := rfl
theorem refs_agg' (cs : List AVal) : refs (.agg cs) = refsL cs := rfl
theorem refs_tuple (cs : List AVal) : refs (.tuple cs) = refsL cs := rfl
theorem refsL_nil : refsL [] = [] := rfl
theorem refsL_cons (v : AVal) (r : List AVal) : refsL (v :: r) = refs v ++ refsL r := rfl
theorem tuple_one (v : AVal) : tupleA [v] = v := rfl
theorem tuple_nil : tupleA [] = .tuple [] := rfl
theorem tuple_two (v w : AVal) (r : List AVal) : tupleA (v :: w :: r) = .tuple (v :: w :: r) := rfl
theorem of_same : Eff.of h .same = h := rfl
theorem of_heap (h' : AHeap) (d : List Nat) : Eff.of h (.heap h' d) = h' := rfl
theorem isSame_same : Eff.isSame .same = true := rfl
theorem pure_int : pureA (.int k a) = true := rfl
theorem pure_bool (x : Bool) : pureA (.bool x) = true := rfl
theorem pure_str : pureA (.str s) = true := rfl
theorem pure_free (es : List (List AVal)) : pureA (.slice es .free) = true := rfl
theorem one_int : oneA (.int k a) = true := rfl
theorem one_bool (x : Bool) : oneA (.bool x) = true := rfl
theorem one_str : oneA (.str s) = true := rfl
theorem one_slice (es : List (List AVal)) (tk : Tk) : oneA (.slice es tk) = true := rfl
theorem one_ptr (p q : Nat) : oneA (.ptr p q) = true := rfl
theorem one_func (f : FuncId) (p q : List AVal) : oneA (.func f p q) = true := rfl
theorem heap_at0 (H L : AHeap) : (H ++ L)[H.length]? = L[0]? := by
  rw [List.getElem?_append_right (Nat.le_refl _)]; simp
theorem heap_at (H L : AHeap) (n : Nat) : (H ++ L)[H.length + n]? = L[n]? := by
  rw [List.getElem?_append_right (Nat.le_add_right _ _)]; simp
theorem set_at0 (H L : AHeap) (x : Blk) : (H ++ L).set H.length x = H ++ L.set 0 x := by
  rw [List.set_append_right _ _ (Nat.le_refl _)]; simp
theorem set_at (H L : AHeap) (n : Nat) (x : Blk) : (H ++ L).set (H.length + n) x = H ++ L.set n x := by
  rw [List.set_append_right _ _ (Nat.le_add_right _ _)]; simp
theorem n_lt0 (n : Nat) : (0 < n + 1) = True := by simp
theorem n_lts (m n : Nat) : (m + 1 < n + 1) = (m < n) := by simp
theorem n_le0 (n : Nat) : (0 ≤ n) = True := by simp
theorem n_les (m n : Nat) : (m + 1 ≤ n + 1) = (m ≤ n) := by simp
theorem n_lea (m n : Nat) : (m ≤ m + n) = True := by simp
theorem n_lta (m n : Nat) : (m < m + (n + 1)) = True := by simp
section
variable (lim : Nat) (ops : List Oper) (j : Nat) (dst : Option Tmp) (ty : TypeId) (pos : String) (after : Array Edge) (gd : Option (Nat × Bool)) (s : St) (f : Eff)
theorem ask_move (x : Operand) : askD lim ops j ⟨dst, .move x, ty, pos, after, gd⟩ s f = true := rfl
theorem ask_assign (x : Operand) : askD lim ops j ⟨dst, .assign x, ty, pos, after, gd⟩ s f = true := rfl
theorem ask_pick (x y z : Operand) : askD lim ops j ⟨dst, .pick x y z, ty, pos, after, gd⟩ s f = true := rfl
theorem ask_build (t : TypeId) (ps : Array (Nat × Operand)) : askD lim ops j ⟨dst, .build t ps, ty, pos, after, gd⟩ s f = true := rfl
theorem ask_buildSlice (t : TypeId) (m : Nat) (ps : Array (Nat × Operand)) : askD lim ops j ⟨dst, .buildSlice t m ps, ty, pos, after, gd⟩ s f = true := rfl
theorem ask_nilCheck (x : Operand) : askD lim ops j ⟨dst, .nilCheck x, ty, pos, after, gd⟩ s f = true := rfl
theorem ask_binOp (o : BinOp) (t t2 : TypeId) (x y : Operand) : askD lim ops j ⟨dst, .binOp o t x y t2, ty, pos, after, gd⟩ s f = true := rfl
theorem ask_unOp (o : UnOp) (t : TypeId) (x : Operand) : askD lim ops j ⟨dst, .unOp o t x, ty, pos, after, gd⟩ s f = true := rfl
theorem ask_convert (t t2 : TypeId) (x : Operand) : askD lim ops j ⟨dst, .convert t t2 x, ty, pos, after, gd⟩ s f = true := rfl
theorem ask_makeInterface (t : TypeId) (x : Operand) : askD lim ops j ⟨dst, .makeInterface t x, ty, pos, after, gd⟩ s f = true := rfl
theorem ask_makeFunc (x : Fn) (p q : Array Operand) : askD lim ops j ⟨dst, .makeFunc x p q, ty, pos, after, gd⟩ s f = true := rfl
theorem ask_slice (t : TypeId) (x : Operand) (p q r : Option Operand) : askD lim ops j ⟨dst, .slice t x p q r, ty, pos, after, gd⟩ s f = true := rfl
theorem ask_fieldAddr (t : TypeId) (x : Operand) (m : Nat) : askD lim ops j ⟨dst, .fieldAddr t x m, ty, pos, after, gd⟩ s f = true := rfl
theorem ask_field (t : TypeId) (x : Operand) (m : Nat) : askD lim ops j ⟨dst, .field t x m, ty, pos, after, gd⟩ s f = true := rfl
theorem ask_indexAddr (t : TypeId) (x y : Operand) : askD lim ops j ⟨dst, .indexAddr t x y, ty, pos, after, gd⟩ s f = true := rfl
theorem ask_index (t : TypeId) (x y : Operand) : askD lim ops j ⟨dst, .index t x y, ty, pos, after, gd⟩ s f = true := rfl
theorem ask_extract (x : Operand) (m : Nat) : askD lim ops j ⟨dst, .extract x m, ty, pos, after, gd⟩ s f = true := rfl
def askL (lim : Nat) : Option AVal → Bool
  | some (.ptr b _) => b < lim
  | _ => true
theorem askL_ptr (b o : Nat) : askL lim (some (.ptr b o)) = decide (b < lim) := rfl
theorem askL_eptr (cs : List AVal) (o : Nat) : askL lim (some (.eptr cs o)) = true := rfl
theorem ask_load (t : TypeId) (x : Operand) : askD lim ops j ⟨dst, .load t x, ty, pos, after, gd⟩ s f = askL lim (constA x s.tmps) := by
  simp only [askD, cls, askL]
  cases constA x s.tmps with
  | none => rfl
  | some a => cases a <;> rfl
/-- A store: does each of its edges bind, and what else. -/
def bindsAll : List Edge → Bool
  | [] => true
  | e :: r => Go.Region.binds .any e && bindsAll r
theorem bindsAll_nil : bindsAll [] = true := rfl
theorem ba_data (n : Nat) (r : List Edge) : bindsAll (⟨n, .data⟩ :: r) = bindsAll r := rfl
theorem ba_chain (n : Nat) (r : List Edge) : bindsAll (⟨n, .chain⟩ :: r) = bindsAll r := rfl
theorem ba_guard (n : Nat) (r : List Edge) : bindsAll (⟨n, .guard⟩ :: r) = bindsAll r := rfl
theorem ba_phase (n : Nat) (r : List Edge) : bindsAll (⟨n, .phase⟩ :: r) = bindsAll r := rfl
theorem ba_text (n : Nat) (d : Departure) (r : List Edge) : bindsAll (⟨n, .textOnly d⟩ :: r) = false := rfl
theorem ba_gc (n : Nat) (d : Departure) (r : List Edge) : bindsAll (⟨n, .gcOnly d⟩ :: r) = false := rfl
theorem bindsAll_eq (l : List Edge) : l.all (Go.Region.binds .any) = bindsAll l := by
  induction l with
  | nil => rfl
  | cons e r ih => simp only [List.all_cons, bindsAll, ih]
theorem pb_nil (q : Nat) : predB q [] = false := rfl
theorem pb_data (q n : Nat) (r : List Edge) : predB q (⟨n, .data⟩ :: r) = ((n == q) || predB q r) := rfl
theorem pb_chain (q n : Nat) (r : List Edge) : predB q (⟨n, .chain⟩ :: r) = ((n == q) || predB q r) := rfl
theorem pb_guard (q n : Nat) (r : List Edge) : predB q (⟨n, .guard⟩ :: r) = ((n == q) || predB q r) := rfl
theorem pb_phase (q n : Nat) (r : List Edge) : predB q (⟨n, .phase⟩ :: r) = ((n == q) || predB q r) := rfl
theorem pb_text (q n : Nat) (d : Departure) (r : List Edge) : predB q (⟨n, .textOnly d⟩ :: r) = predB q r := rfl
theorem pb_gc (q n : Nat) (d : Departure) (r : List Edge) : predB q (⟨n, .gcOnly d⟩ :: r) = predB q r := rfl
def apartU (af : List Edge) (ts : List AVal) (d : List Nat) (j : Nat) (ops : List Oper) (_ : Unit) : Bool := apartF af ts d 0 j ops
theorem apartU_eq (af : List Edge) (ts : List AVal) (d : List Nat) : apartU af ts d j ops () = apartF af ts d 0 j ops := rfl
def callU (af : List Edge) (ts : List AVal) (d : List Nat) (j : Nat) (ops : List Oper) (_ : Unit) : Bool := soloOk ops j || (freeOk ops j && apartF af ts d 0 j ops)
def askW (b : Bool) (k : Unit → Bool) : Bool := b || k ()
theorem askW_true (k : Unit → Bool) : askW true k = true := rfl
theorem askW_false (k : Unit → Bool) : askW false k = k () := rfl
def askC (b : Bool) (k : Unit → Bool) : Bool := b || k ()
theorem askC_true (k : Unit → Bool) : askC true k = true := rfl
theorem ao_ptr (d : List Nat) (b o : Nat) : addrOk d (some (.ptr b o)) = !d.contains b := rfl
theorem ao_eptr (d : List Nat) (cs : List AVal) (o : Nat) : addrOk d (some (.eptr cs o)) = true := rfl
theorem ct_nil (b : Nat) : ([] : List Nat).contains b = false := rfl
theorem ct_cons (a b : Nat) (r : List Nat) : (a :: r).contains b = ((b == a) || r.contains b) := by rw [List.contains_cons]
theorem af_zero (af : List Edge) (ts : List AVal) (d : List Nat) (q : Nat) (l : List Oper) : apartF af ts d q 0 l = true := by unfold apartF; rfl
theorem af_load (af : List Edge) (ts : List AVal) (d : List Nat) (q m : Nat) (r : List Oper) (t : TypeId) (a : Operand) : apartF af ts d q (m + 1) (⟨dst, .load t a, ty, pos, after, gd⟩ :: r) = ((predB q af || addrOk d (constA a ts)) && apartF af ts d (q + 1) m r) := rfl
theorem af_move (af : List Edge) (ts : List AVal) (d : List Nat) (q m : Nat) (r : List Oper) (x : Operand) : apartF af ts d q (m + 1) (⟨dst, .move x, ty, pos, after, gd⟩ :: r) = apartF af ts d (q + 1) m r := by simp only [apartF, Bool.true_and]
theorem af_assign (af : List Edge) (ts : List AVal) (d : List Nat) (q m : Nat) (r : List Oper) (x : Operand) : apartF af ts d q (m + 1) (⟨dst, .assign x, ty, pos, after, gd⟩ :: r) = apartF af ts d (q + 1) m r := by simp only [apartF, Bool.true_and]
theorem af_pick (af : List Edge) (ts : List AVal) (d : List Nat) (q m : Nat) (r : List Oper) (x y z : Operand) : apartF af ts d q (m + 1) (⟨dst, .pick x y z, ty, pos, after, gd⟩ :: r) = apartF af ts d (q + 1) m r := by simp only [apartF, Bool.true_and]
theorem af_build (af : List Edge) (ts : List AVal) (d : List Nat) (q m : Nat) (r : List Oper) (t : TypeId) (ps : Array (Nat × Operand)) : apartF af ts d q (m + 1) (⟨dst, .build t ps, ty, pos, after, gd⟩ :: r) = apartF af ts d (q + 1) m r := by simp only [apartF, Bool.true_and]
theorem af_buildSlice (af : List Edge) (ts : List AVal) (d : List Nat) (q m : Nat) (r : List Oper) (t : TypeId) (m2 : Nat) (ps : Array (Nat × Operand)) : apartF af ts d q (m + 1) (⟨dst, .buildSlice t m2 ps, ty, pos, after, gd⟩ :: r) = apartF af ts d (q + 1) m r := by simp only [apartF, Bool.true_and]
theorem af_store (af : List Edge) (ts : List AVal) (d : List Nat) (q m : Nat) (r : List Oper) (t : TypeId) (x y : Operand) : apartF af ts d q (m + 1) (⟨dst, .store t x y, ty, pos, after, gd⟩ :: r) = apartF af ts d (q + 1) m r := by simp only [apartF, Bool.true_and]
theorem af_nilCheck (af : List Edge) (ts : List AVal) (d : List Nat) (q m : Nat) (r : List Oper) (x : Operand) : apartF af ts d q (m + 1) (⟨dst, .nilCheck x, ty, pos, after, gd⟩ :: r) = apartF af ts d (q + 1) m r := by simp only [apartF, Bool.true_and]
theorem af_binOp (af : List Edge) (ts : List AVal) (d : List Nat) (q m : Nat) (r : List Oper) (o : BinOp) (t t2 : TypeId) (x y : Operand) : apartF af ts d q (m + 1) (⟨dst, .binOp o t x y t2, ty, pos, after, gd⟩ :: r) = apartF af ts d (q + 1) m r := by simp only [apartF, Bool.true_and]
theorem af_unOp (af : List Edge) (ts : List AVal) (d : List Nat) (q m : Nat) (r : List Oper) (o : UnOp) (t : TypeId) (x : Operand) : apartF af ts d q (m + 1) (⟨dst, .unOp o t x, ty, pos, after, gd⟩ :: r) = apartF af ts d (q + 1) m r := by simp only [apartF, Bool.true_and]
theorem af_convert (af : List Edge) (ts : List AVal) (d : List Nat) (q m : Nat) (r : List Oper) (t t2 : TypeId) (x : Operand) : apartF af ts d q (m + 1) (⟨dst, .convert t t2 x, ty, pos, after, gd⟩ :: r) = apartF af ts d (q + 1) m r := by simp only [apartF, Bool.true_and]
theorem af_makeInterface (af : List Edge) (ts : List AVal) (d : List Nat) (q m : Nat) (r : List Oper) (t : TypeId) (x : Operand) : apartF af ts d q (m + 1) (⟨dst, .makeInterface t x, ty, pos, after, gd⟩ :: r) = apartF af ts d (q + 1) m r := by simp only [apartF, Bool.true_and]
theorem af_makeFunc (af : List Edge) (ts : List AVal) (d : List Nat) (q m : Nat) (r : List Oper) (x : Fn) (p2 q2 : Array Operand) : apartF af ts d q (m + 1) (⟨dst, .makeFunc x p2 q2, ty, pos, after, gd⟩ :: r) = apartF af ts d (q + 1) m r := by simp only [apartF, Bool.true_and]
theorem af_slice (af : List Edge) (ts : List AVal) (d : List Nat) (q m : Nat) (r : List Oper) (t : TypeId) (x : Operand) (p2 q2 r2 : Option Operand) : apartF af ts d q (m + 1) (⟨dst, .slice t x p2 q2 r2, ty, pos, after, gd⟩ :: r) = apartF af ts d (q + 1) m r := by simp only [apartF, Bool.true_and]
theorem af_fieldAddr (af : List Edge) (ts : List AVal) (d : List Nat) (q m : Nat) (r : List Oper) (t : TypeId) (x : Operand) (m2 : Nat) : apartF af ts d q (m + 1) (⟨dst, .fieldAddr t x m2, ty, pos, after, gd⟩ :: r) = apartF af ts d (q + 1) m r := by simp only [apartF, Bool.true_and]
theorem af_field (af : List Edge) (ts : List AVal) (d : List Nat) (q m : Nat) (r : List Oper) (t : TypeId) (x : Operand) (m2 : Nat) : apartF af ts d q (m + 1) (⟨dst, .field t x m2, ty, pos, after, gd⟩ :: r) = apartF af ts d (q + 1) m r := by simp only [apartF, Bool.true_and]
theorem af_indexAddr (af : List Edge) (ts : List AVal) (d : List Nat) (q m : Nat) (r : List Oper) (t : TypeId) (x y : Operand) : apartF af ts d q (m + 1) (⟨dst, .indexAddr t x y, ty, pos, after, gd⟩ :: r) = apartF af ts d (q + 1) m r := by simp only [apartF, Bool.true_and]
theorem af_index (af : List Edge) (ts : List AVal) (d : List Nat) (q m : Nat) (r : List Oper) (t : TypeId) (x y : Operand) : apartF af ts d q (m + 1) (⟨dst, .index t x y, ty, pos, after, gd⟩ :: r) = apartF af ts d (q + 1) m r := by simp only [apartF, Bool.true_and]
theorem af_extract (af : List Edge) (ts : List AVal) (d : List Nat) (q m : Nat) (r : List Oper) (x : Operand) (m2 : Nat) : apartF af ts d q (m + 1) (⟨dst, .extract x m2, ty, pos, after, gd⟩ :: r) = apartF af ts d (q + 1) m r := by simp only [apartF, Bool.true_and]
theorem af_alloc (af : List Edge) (ts : List AVal) (d : List Nat) (q m : Nat) (r : List Oper) (t : TypeId) : apartF af ts d q (m + 1) (⟨dst, .alloc t, ty, pos, after, gd⟩ :: r) = apartF af ts d (q + 1) m r := by simp only [apartF, Bool.true_and]
theorem af_box (af : List Edge) (ts : List AVal) (d : List Nat) (q m : Nat) (r : List Oper) (t : TypeId) (x : Operand) : apartF af ts d q (m + 1) (⟨dst, .box t x, ty, pos, after, gd⟩ :: r) = apartF af ts d (q + 1) m r := by simp only [apartF, Bool.true_and]
theorem af_call (af : List Edge) (ts : List AVal) (d : List Nat) (q m : Nat) (r : List Oper) (c : Go.Call) : apartF af ts d q (m + 1) (⟨dst, .call c, ty, pos, after, gd⟩ :: r) = apartF af ts d (q + 1) m r := by simp only [apartF, Bool.true_and]
theorem ask_store (t : TypeId) (x y : Operand) : askD lim ops j ⟨dst, .store t x y, ty, pos, after, gd⟩ s f = askW (bindsAll after.toList) (apartU after.toList s.tmps f.dirt j ops) := by
  simp only [askD, cls, askW, apartU, departsO, Bool.not_not, bindsAll_eq]
theorem ask_alloc (t : TypeId) : askD lim ops j ⟨dst, .alloc t, ty, pos, after, gd⟩ s f = decide (lim ≤ s.heap.length) := rfl
theorem ask_box (t : TypeId) (x : Operand) : askD lim ops j ⟨dst, .box t x, ty, pos, after, gd⟩ s f = decide (lim ≤ s.heap.length) := rfl
theorem ask_append (a : Array Operand) (ts : Array TypeId) : askD lim ops j ⟨dst, .call { callee := .builtin .append, args := a, argTypes := ts }, ty, pos, after, gd⟩ s f = decide (lim ≤ s.heap.length) := rfl
theorem ask_len (a : Array Operand) (ts : Array TypeId) : askD lim ops j ⟨dst, .call { callee := .builtin .len, args := a, argTypes := ts }, ty, pos, after, gd⟩ s f = true := rfl
theorem ask_max (a : Array Operand) (ts : Array TypeId) : askD lim ops j ⟨dst, .call { callee := .builtin .max, args := a, argTypes := ts }, ty, pos, after, gd⟩ s f = true := rfl
theorem ask_min (a : Array Operand) (ts : Array TypeId) : askD lim ops j ⟨dst, .call { callee := .builtin .min, args := a, argTypes := ts }, ty, pos, after, gd⟩ s f = true := rfl
theorem ask_call (x : Operand) (a : Array Operand) (ts : Array TypeId) : askD lim ops j ⟨dst, .call { callee := .value x, args := a, argTypes := ts }, ty, pos, after, gd⟩ s f = askC f.isSame (callU after.toList s.tmps f.dirt j ops) := by
  simp only [askD, cls, askC, callU, Bool.or_assoc]
end
structure AppOk (P : Program) (t e sz : Nat) : Prop where
  el : elemA P t = some e
  si : sizeA P e = some sz
  re : ∃ n by_ z, sz = n + 1 ∧ bytesA P e = some by_ ∧ zeroA P e = some z ∧ (0 < by_ && by_ ≤ 128 && z.cells.length == n + 1) = true
variable {P t}
theorem app_full {e sz : Nat} (ok : AppOk P t e sz) {es fs : List (List AVal)} {tk' : Tk} (hl : es.length + fs.length ≤ lenTop) (he1 : headOk sz es = true) (hf1 : headOk sz fs = true) (hne : ¬ fs = []) :
    appendA P h t (.slice es .full) (.slice fs tk') = some (.slice (es ++ fs) (.own h.length), .heap (h ++ [.tok (es.length + fs.length) e]) []) := by
  obtain ⟨he, hs, n, by_, z, rfl, hb, hz, hc⟩ := ok
  simp only [Bool.and_eq_true, decide_eq_true_eq] at hc
  have hl' : es.length + fs.length ≤ lenMax := hl
  simp only [appendA, he, hs, hb, hz, hl', he1, hf1, hc]
  cases fs with
  | nil => exact absurd rfl hne
  | cons f r => rfl
theorem app_nil {e sz : Nat} (ok : AppOk P t e sz) {es : List (List AVal)} {tk tk' : Tk} (hl : es.length ≤ lenTop) (he1 : headOk sz es = true) :
    appendA P h t (.slice es tk) (.slice [] tk') = some (.slice es tk, .same) := by
  obtain ⟨he, hs, n, by_, z, rfl, hb, hz, hc⟩ := ok
  simp only [Bool.and_eq_true, decide_eq_true_eq] at hc
  have hl' : es.length ≤ lenMax := hl
  have h0 : headOk (n + 1) ([] : List (List AVal)) = true := rfl
  simp [appendA, he, hs, hb, hz, hl', he1, hc, h0]
theorem app_own {e sz : Nat} (ok : AppOk P t e sz) {es fs : List (List AVal)} {tk' : Tk} {p : Nat}
    (hl : es.length + fs.length ≤ lenTop) (he1 : headOk sz es = true) (hf1 : headOk sz fs = true) (hne : ¬ fs = []) (hp : h[p]? = some (.tok es.length e)) (ht : (tk' == .own p) = false) :
    appendA P h t (.slice es (.own p)) (.slice fs tk') = some (.slice (es ++ fs) (.own p), .heap (h.set p (.tok (es.length + fs.length) e)) [p]) := by
  obtain ⟨he, hs, n, by_, z, rfl, hb, hz, hc⟩ := ok
  simp only [Bool.and_eq_true, decide_eq_true_eq] at hc
  have hl' : es.length + fs.length ≤ lenMax := hl
  simp only [appendA, he, hs, hb, hz, hl', he1, hf1, hc]
  cases fs with
  | nil => exact absurd rfl hne
  | cons f r => simp [hp, ht]
def zc (z : Option AVal) : List AVal := match z with | some z => z.cells | none => []
theorem zc_some (z : AVal) : zc (some z) = z.cells := rfl
theorem bs_ok {e sz : Nat} (ok : AppOk P t e sz) (cmp : List TypeId) (call : Call) (dst : Option Tmp) (ty : TypeId) (pos : String) (after : Array Edge) (gd : Option (Nat × Bool)) (ts : List AVal) (h : AHeap) (n : Nat) (ps : Array (Nat × Operand)) (hn : n * sz ≤ 65536) :
    opA P cmp call ⟨dst, .buildSlice t n ps, ty, pos, after, gd⟩ ts h =
    bnd (partsA ts ps.toList) fun us => bnd (fillA (fun i => some (i * sz, sz)) (List.replicate n (zc (zeroA P e))).flatten us) fun cs => bnd (elemsA (chop sz n cs)) fun es => some (.val (.slice es .full) .same) := by
  obtain ⟨he, hs, m, by_, z, rfl, hb, hz, hc⟩ := ok
  simp only [Bool.and_eq_true, decide_eq_true_eq] at hc
  rw [op_buildSlice (he := he) (hs := hs) (hz := hz) (hn := by simp [hn, hc.2]), hz]
  rfl
end
section
def fillS (b : Bool) (x : Option (List AVal)) (k : List AVal → Option (List AVal)) : Option (List AVal) := if b then bnd x k else none
theorem fillS_true (x : Option (List AVal)) (k : List AVal → Option (List AVal)) : fillS true x k = bnd x k := rfl
theorem fill_nil (p : Nat → Option (Nat × Nat)) (cs : List AVal) : fillA p cs [] = some cs := rfl
theorem fill_cons (p : Nat → Option (Nat × Nat)) (cs : List AVal) (i : Nat) (v : AVal) (r : List (Nat × AVal)) :
    fillA p cs ((i, v) :: r) = bnd (p i) fun q => fillS (v.cells.length == q.2) (setCells cs q.1 v.cells) fun cs => fillA p cs r := by
  simp only [fillA]
  cases p i with
  | none => rfl
  | some q =>
    obtain ⟨a, b⟩ := q
    simp only [bnd, fillS, beq_iff_eq]
    split
    · cases setCells cs a v.cells <;> rfl
    · rfl
theorem setc_zero (cs vs : List AVal) (h : vs.length ≤ cs.length) : setCells cs 0 vs = some (vs ++ cs.drop vs.length) := by
  cases cs <;> simp only [setCells] <;> rw [if_pos h]
theorem setc_succ (c : AVal) (cs vs : List AVal) (n : Nat) : setCells (c :: cs) (n + 1) vs = (setCells cs n vs).map (c :: ·) := rfl
theorem chop_zero (s : Nat) (cs : List AVal) : chop s 0 cs = [] := rfl
theorem chop_succ (s n : Nat) (cs : List AVal) : chop s (n + 1) cs = cs.take s :: chop s n (cs.drop s) := rfl
theorem elems_nil : elemsA [] = some [] := rfl
theorem elems_cons (c : List AVal) (r : List (List AVal)) : elemsA (c :: r) = bnd (elemCells c) fun c => bnd (elemsA r) fun r => some (c :: r) := by
  simp only [elemsA]; cases elemCells c with
  | none => rfl
  | some c => cases elemsA r <;> rfl
def elemS (b : Bool) (cs : List AVal) : Option (List AVal) := if b then some cs else none
theorem elemS_true (cs : List AVal) : elemS true cs = some cs := rfl
theorem elem_eq (cs : List AVal) : elemCells cs = elemS ((cs.map strip0).all pureA) (cs.map strip0) := rfl
theorem head_nil (s : Nat) : headOk s [] = true := rfl
theorem head_cons (s : Nat) (c : List AVal) (r : List (List AVal)) : headOk s (c :: r) = (c.length == s) := rfl
theorem tk_full (p : Nat) : (Tk.full == Tk.own p) = false := rfl
theorem tk_free (p : Nat) : (Tk.free == Tk.own p) = false := rfl
theorem s0_int (k : IntKind) (a : Int) : strip0 (.int k a) = .int k a := rfl
theorem s0_bool (x : Bool) : strip0 (.bool x) = .bool x := rfl
theorem s0_str (s : List UInt8) : strip0 (.str s) = .str s := rfl
theorem s0_slice (es : List (List AVal)) (tk : Tk) : strip0 (.slice es tk) = .slice es .free := rfl
theorem s0_ptr (p q : Nat) : strip0 (.ptr p q) = .ptr p q := rfl
theorem s0_func (f : FuncId) (p q : List AVal) : strip0 (.func f p q) = .func f p q := rfl
theorem s0_nilf : strip0 .nilf = .nilf := rfl
end
theorem lit_le : ((0 : Int) ≤ 0) = True ∧ ((0 : Int) ≤ 1) = True ∧ ((0 : Int) ≤ 2) = True ∧ ((0 : Int) ≤ 3) = True ∧ ((0 : Int) ≤ 4) = True ∧ ((0 : Int) ≤ 5) = True ∧ ((0 : Int) ≤ 6) = True ∧ ((0 : Int) ≤ 7) = True ∧ ((0 : Int) ≤ 8) = True ∧ ((0 : Int) ≤ 9) = True ∧ ((0 : Int) ≤ 10) = True ∧ ((0 : Int) ≤ 11) = True := by simp
theorem lit_nat : Int.toNat (0 : Int) = 0 ∧ Int.toNat (1 : Int) = 1 ∧ Int.toNat (2 : Int) = 2 ∧ Int.toNat (3 : Int) = 3 ∧ Int.toNat (4 : Int) = 4 ∧ Int.toNat (5 : Int) = 5 ∧ Int.toNat (6 : Int) = 6 ∧ Int.toNat (7 : Int) = 7 ∧ Int.toNat (8 : Int) = 8 ∧ Int.toNat (9 : Int) = 9 ∧ Int.toNat (10 : Int) = 10 ∧ Int.toNat (11 : Int) = 11 := by simp
end Go.Ab
/- Slices that are built of values of one cell each. -/
namespace Go.Ab
def rowS : List AVal → Option (List (List AVal))
  | [] => some []
  | v :: r => if v.cells.length = 1 then bnd (elemCells v.cells) fun c => bnd (rowS r) fun l => some (c :: l) else none
theorem rowS_nil : rowS [] = some [] := rfl
theorem rowS_str (s : List UInt8) (r : List AVal) : rowS (.str s :: r) = bnd (rowS r) fun l => some ([.str s] :: l) := rfl
theorem rowS_int (k : IntKind) (n : Int) (r : List AVal) : rowS (.int k n :: r) = bnd (rowS r) fun l => some ([.int k n] :: l) := rfl
def rowV (us : List AVal) : Option OR := bnd (rowS us) fun es => some (.val (.slice es .full) .same)
theorem rowV_eq (us : List AVal) : rowV us = bnd (rowS us) fun es => some (.val (.slice es .full) .same) := rfl
def numFrom : Nat → List AVal → List (Nat × AVal)
  | _, [] => []
  | k, v :: r => (k, v) :: numFrom (k + 1) r
def numOs : Nat → List Operand → List (Nat × Operand)
  | _, [] => []
  | k, v :: r => (k, v) :: numOs (k + 1) r
theorem parts_num (ts : List AVal) : ∀ (os : List Operand) (k : Nat), partsA ts (numOs k os) = (argsA ts os).map (numFrom k)
  | [], k => rfl
  | o :: r, k => by
    simp only [numOs, partsA, argsA, parts_num ts r (k + 1)]
    cases constA o ts <;> cases argsA ts r <;> rfl
theorem setCells_mid (pre : List AVal) (x : AVal) (c : AVal) (r : List AVal) : setCells (pre ++ x :: r) pre.length [c] = some (pre ++ c :: r) := by
  induction pre with
  | nil => simp [setCells]
  | cons p q ih => simp only [List.cons_append, List.length_cons, setCells, ih]; rfl
def oneEach (us : List AVal) : Bool := us.all fun v => v.cells.length == 1
theorem fill_row : ∀ (us z pre : List AVal), us.length = z.length →
    fillA (fun i => some (i * 1, 1)) (pre ++ z) (numFrom pre.length us) = if oneEach us then some (pre ++ us.flatMap AVal.cells) else none
  | [], z, pre, h => by
    cases z with
    | nil => rfl
    | cons => simp at h
  | v :: r, z, pre, h => by
    cases z with
    | nil => simp at h
    | cons x z =>
      simp only [numFrom, fillA, Nat.mul_one]
      by_cases hv : v.cells.length = 1
      · obtain ⟨c, hc⟩ := List.length_eq_one_iff.1 hv
        rw [if_pos hv, hc, setCells_mid]
        have ih := fill_row r z (pre ++ [c]) (by simpa using h)
        simp only [List.append_assoc, List.singleton_append, List.length_append, List.length_cons, List.length_nil, Nat.mul_one] at ih
        simp only [ih, oneEach, List.all_cons, hc, List.flatMap_cons, List.length_cons, List.length_nil, List.singleton_append]
        rfl
      · rw [if_neg hv]
        simp [oneEach, hv]
theorem chop_one : ∀ cs : List AVal, chop 1 cs.length cs = cs.map ([·])
  | [] => rfl
  | c :: r => by simp only [List.length_cons, chop, List.take_succ_cons, List.take_zero, List.drop_succ_cons, List.drop_zero, chop_one r, List.map_cons]
def rowT (us : List AVal) : Option (List (List AVal)) := if oneEach us then elemsA ((us.flatMap AVal.cells).map ([·])) else none
theorem rowT_cons (v : AVal) (r : List AVal) (c : AVal) (hc : v.cells = [c]) : rowT (v :: r) = bnd (elemCells [c]) fun x => bnd (rowT r) fun l => some (x :: l) := by
  have h1 : oneEach (v :: r) = oneEach r := by simp [oneEach, hc]
  unfold rowT
  rw [h1]
  cases h2 : oneEach r with
  | false =>
    cases elemCells [c] with
    | none => rfl
    | some x => rfl
  | true =>
    have h3 : ((v :: r).flatMap AVal.cells).map (fun x => [x]) = [c] :: (r.flatMap AVal.cells).map (fun x => [x]) := by simp [hc]
    simp only [if_true]
    rw [h3]
    simp only [elemsA]
    cases elemCells [c] with
    | none => rfl
    | some x => cases elemsA (List.map (fun x => [x]) (List.flatMap AVal.cells r)) <;> rfl
theorem elems_row : ∀ us : List AVal, rowT us = rowS us
  | [] => rfl
  | v :: r => by
    have ih := elems_row r
    simp only [rowS]
    by_cases hv : v.cells.length = 1
    · obtain ⟨c, hc⟩ := List.length_eq_one_iff.1 hv
      rw [rowT_cons v r c hc, ih, if_pos hv, hc]
    · rw [if_neg hv]
      simp [rowT, oneEach, hv]
theorem bs1 {P : Program} {t : TypeId} {e : TypeId} (ok : AppOk P t e 1) (os : List Operand) (hz : (zc (zeroA P e)).length = 1) (cmp : List TypeId) (call : Call) (dst : Option Tmp) (ty : TypeId) (pos : String) (after : Array Edge) (gd : Option (Nat × Bool)) (ts : List AVal) (h : AHeap) (n : Nat) (ps : Array (Nat × Operand)) (hn : n ≤ 65536)
    (hps : ps.toList = numOs 0 os) (hl : os.length = n) :
    opA P cmp call ⟨dst, .buildSlice t n ps, ty, pos, after, gd⟩ ts h = bnd (argsA ts os) rowV := by
  rw [bs_ok ok cmp call dst ty pos after gd ts h n ps (by simpa using hn), hps, parts_num]
  cases ha : argsA ts os with
  | none => rfl
  | some us =>
    have hu : us.length = n := by
      have : ∀ (os : List Operand) (us : List AVal), argsA ts os = some us → us.length = os.length := by
        intro os
        induction os with
        | nil => intro us h; simp only [argsA, Option.some.injEq] at h; subst h; rfl
        | cons o r ih =>
          intro us h
          simp only [argsA] at h
          split at h
          · rename_i h1 h2
            simp only [Option.some.injEq] at h; subst h
            simp [ih _ h2]
          · cases h
      rw [this os us ha, hl]
    obtain ⟨z, hz'⟩ := List.length_eq_one_iff.1 hz
    have hr : (List.replicate n (zc (zeroA P e))).flatten = List.replicate n z := by
      rw [hz']
      clear hl hu hps hn
      induction n with
      | zero => rfl
      | succ m ih => simp only [List.replicate_succ, List.flatten_cons, ih]; rfl
    have hf := fill_row us (List.replicate n z) [] (by simpa using hu)
    simp only [List.nil_append, List.length_nil] at hf
    simp only [Option.map_some, bnd, hr, hf, rowV]
    have hc : ∀ vs : List AVal, oneEach vs = true → (vs.flatMap AVal.cells).length = vs.length := by
      intro vs
      induction vs with
      | nil => intro _; rfl
      | cons v r ih =>
        intro h
        simp only [oneEach, List.all_cons, Bool.and_eq_true, beq_iff_eq] at h
        simp only [List.flatMap_cons, List.length_append, List.length_cons, h.1, ih h.2]
        omega
    rw [← elems_row us]
    by_cases h1 : oneEach us = true
    · have : n = (us.flatMap AVal.cells).length := by rw [hc us h1, hu]
      unfold rowT
      rw [if_pos h1, if_pos h1]
      simp only [bnd]
      rw [this, chop_one]
    · unfold rowT; rw [if_neg h1, if_neg h1]
-- eqs
section
variable (P : Program) (cmp : List TypeId) (t : TypeId) (n : Bool)
theorem one_nilf : oneA .nilf = true := rfl
theorem one_nilp : oneA .nilp = true := rfl
theorem one_nili : oneA .nili = true := rfl
theorem one_eptr (cs : List AVal) (o : Nat) : oneA (.eptr cs o) = true := rfl
theorem one_iface (t : TypeId) (v : AVal) : oneA (.iface t v) = true := rfl
theorem pure_nilf : pureA .nilf = true := rfl
theorem pure_nilp : pureA .nilp = true := rfl
theorem pure_nili : pureA .nili = true := rfl
theorem refs_nilf : refs .nilf = [] := rfl
theorem refs_nilp : refs .nilp = [] := rfl
theorem refs_nili : refs .nili = [] := rfl
theorem refs_ptr (b o : Nat) : refs (.ptr b o) = [b] := rfl
theorem refs_func (f : FuncId) (p q : List AVal) : refs (.func f p q) = refsL p ++ refsL q := rfl
theorem s0_nilp : strip0 .nilp = .nilp := rfl
theorem s0_nili : strip0 .nili = .nili := rfl
theorem s0_iface (t : TypeId) (v : AVal) : strip0 (.iface t v) = .iface t v := rfl
theorem s2_nilf : strip2 .nilf = .nilf := rfl
theorem s2_nilp : strip2 .nilp = .nilp := rfl
theorem s2_nili : strip2 .nili = .nili := rfl
theorem s2_ptr (b o : Nat) : strip2 (.ptr b o) = .ptr b o := rfl
theorem s2_func (f : FuncId) (p q : List AVal) : strip2 (.func f p q) = .func f p q := rfl
theorem s3_nilf : strip3 .nilf = .nilf := rfl
theorem s3_nilp : strip3 .nilp = .nilp := rfl
theorem s3_nili : strip3 .nili = .nili := rfl
theorem s3_ptr (b o : Nat) : strip3 (.ptr b o) = .ptr b o := rfl
theorem s3_func (f : FuncId) (p q : List AVal) : strip3 (.func f p q) = .func f p q := rfl
theorem arg_nilf : argA .nilf = .nilf := rfl
theorem arg_nilp : argA .nilp = .nilp := rfl
theorem arg_nili : argA .nili = .nili := rfl
theorem len_encStrs (e : TypeId) (l : List (List UInt8)) : lenA (some (.slice e)) (encStrs l) = some (.val (.int .i64 l.length) .same) := by simp [encStrs, lenA]
def eqF (d : Option TypeDesc) (b : Bool) : Option AVal := match d with
  | some (.func ..) => some (.bool b)
  | _ => none
theorem eqF_func (a c : Array TypeId) (v b : Bool) : eqF (some (.func a c v)) b = some (.bool b) := rfl
theorem bin_enn : binA P cmp .eql t n .nilf .nilf = eqF (P.underlying t) true := by
  simp only [binA, eqT, eqF]
  cases P.underlying t with
  | none => rfl
  | some d => cases d <;> rfl
theorem bin_enf (f : FuncId) (p q : List AVal) : binA P cmp .eql t n .nilf (.func f p q) = eqF (P.underlying t) false := by
  simp only [binA, eqT, eqF]
  cases P.underlying t with
  | none => rfl
  | some d => cases d <;> rfl
theorem bin_efn (f : FuncId) (p q : List AVal) : binA P cmp .eql t n (.func f p q) .nilf = eqF (P.underlying t) false := by
  simp only [binA, eqT, eqF]
  cases P.underlying t with
  | none => rfl
  | some d => cases d <;> rfl
theorem bin_nnn : binA P cmp .neq t n .nilf .nilf = eqF (P.underlying t) false := by
  simp only [binA, eqT, eqF]
  cases P.underlying t with
  | none => rfl
  | some d => cases d <;> rfl
theorem bin_nnf (f : FuncId) (p q : List AVal) : binA P cmp .neq t n .nilf (.func f p q) = eqF (P.underlying t) true := by
  simp only [binA, eqT, eqF]
  cases P.underlying t with
  | none => rfl
  | some d => cases d <;> rfl
theorem bin_nfn (f : FuncId) (p q : List AVal) : binA P cmp .neq t n (.func f p q) .nilf = eqF (P.underlying t) true := by
  simp only [binA, eqT, eqF]
  cases P.underlying t with
  | none => rfl
  | some d => cases d <;> rfl
def eqBd (d : Option TypeDesc) (b : Bool) : Option AVal := match d with
  | some .bool => some (.bool b)
  | _ => none
theorem eqBd_bool (b : Bool) : eqBd (some .bool) b = some (.bool b) := rfl
theorem bin_beq (a b : Bool) : binA P cmp .eql t n (.bool a) (.bool b) = eqBd (P.underlying t) (a == b) := by
  simp only [binA, eqT, eqBd]
  cases P.underlying t with
  | none => rfl
  | some d => cases d <;> rfl
theorem bin_bne (a b : Bool) : binA P cmp .neq t n (.bool a) (.bool b) = eqBd (P.underlying t) (!(a == b)) := by
  simp only [binA, eqT, eqBd]
  cases P.underlying t with
  | none => rfl
  | some d => cases d <;> rfl
end
end Go.Ab
