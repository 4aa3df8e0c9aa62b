/- Slices that are built of values of one cell each. -/
import Derived.Test.YtnmejllfnndcbaaGreatDoorAbSimB
set_option linter.unusedSimpArgs false
set_option linter.unusedVariables false
namespace Go.Ab
def rowS : List AVal → Option (List (List AVal))
  | [] => some []
  | v :: r => if v.cells.length = 1 then bnd (elemCells v.cells) fun c => bnd (rowS r) fun l => some (c :: l) else none
theorem rowS_nil : rowS [] = some [] := rfl
theorem rowS_str (s : List UInt8) (r : List AVal) : rowS (.str s :: r) = bnd (rowS r) fun l => some ([.str s] :: l) := rfl
theorem rowS_int (k : IntKind) (n : Int) (r : List AVal) : rowS (.int k n :: r) = bnd (rowS r) fun l => some ([.int k n] :: l) := rfl
def rowV (us : List AVal) : Option OR := bnd (rowS us) fun es => some (.val (.slice es .full) .same)
theorem rowV_eq (us : List AVal) : rowV us = bnd (rowS us) fun es => some (.val (.slice es .full) .same) := rfl
def numFrom : Nat → List AVal → List (Nat × AVal)
  | _, [] => []
  | k, v :: r => (k, v) :: numFrom (k + 1) r
def numOs : Nat → List Operand → List (Nat × Operand)
  | _, [] => []
  | k, v :: r => (k, v) :: numOs (k + 1) r
theorem parts_num (ts : List AVal) : ∀ (os : List Operand) (k : Nat), partsA ts (numOs k os) = (argsA ts os).map (numFrom k)
  | [], k => rfl
  | o :: r, k => by
    simp only [numOs, partsA, argsA, parts_num ts r (k + 1)]
    cases constA o ts <;> cases argsA ts r <;> rfl
theorem setCells_mid (pre : List AVal) (x : AVal) (c : AVal) (r : List AVal) : setCells (pre ++ x :: r) pre.length [c] = some (pre ++ c :: r) := by
  induction pre with
  | nil => simp [setCells]
  | cons p q ih => simp only [List.cons_append, List.length_cons, setCells, ih]; rfl
def oneEach (us : List AVal) : Bool := us.all fun v => v.cells.length == 1
theorem fill_row : ∀ (us z pre : List AVal), us.length = z.length →
    fillA (fun i => some (i * 1, 1)) (pre ++ z) (numFrom pre.length us) = if oneEach us then some (pre ++ us.flatMap AVal.cells) else none
  | [], z, pre, h => by
    cases z with
    | nil => rfl
    | cons => simp at h
  | v :: r, z, pre, h => by
    cases z with
    | nil => simp at h
    | cons x z =>
      simp only [numFrom, fillA, Nat.mul_one]
      by_cases hv : v.cells.length = 1
      · obtain ⟨c, hc⟩ := List.length_eq_one_iff.1 hv
        rw [if_pos hv, hc, setCells_mid]
        have ih := fill_row r z (pre ++ [c]) (by simpa using h)
        simp only [List.append_assoc, List.singleton_append, List.length_append, List.length_cons, List.length_nil, Nat.mul_one] at ih
        simp only [ih, oneEach, List.all_cons, hc, List.flatMap_cons, List.length_cons, List.length_nil, List.singleton_append]
        rfl
      · rw [if_neg hv]
        simp [oneEach, hv]
theorem chop_one : ∀ cs : List AVal, chop 1 cs.length cs = cs.map ([·])
  | [] => rfl
  | c :: r => by simp only [List.length_cons, chop, List.take_succ_cons, List.take_zero, List.drop_succ_cons, List.drop_zero, chop_one r, List.map_cons]
def rowT (us : List AVal) : Option (List (List AVal)) := if oneEach us then elemsA ((us.flatMap AVal.cells).map ([·])) else none
theorem rowT_cons (v : AVal) (r : List AVal) (c : AVal) (hc : v.cells = [c]) : rowT (v :: r) = bnd (elemCells [c]) fun x => bnd (rowT r) fun l => some (x :: l) := by
  have h1 : oneEach (v :: r) = oneEach r := by simp [oneEach, hc]
  unfold rowT
  rw [h1]
  cases h2 : oneEach r with
  | false =>
    cases elemCells [c] with
    | none => rfl
    | some x => rfl
  | true =>
    have h3 : ((v :: r).flatMap AVal.cells).map (fun x => [x]) = [c] :: (r.flatMap AVal.cells).map (fun x => [x]) := by simp [hc]
    simp only [if_true]
    rw [h3]
    simp only [elemsA]
    cases elemCells [c] with
    | none => rfl
    | some x => cases elemsA (List.map (fun x => [x]) (List.flatMap AVal.cells r)) <;> rfl
theorem elems_row : ∀ us : List AVal, rowT us = rowS us
  | [] => rfl
  | v :: r => by
    have ih := elems_row r
    simp only [rowS]
    by_cases hv : v.cells.length = 1
    · obtain ⟨c, hc⟩ := List.length_eq_one_iff.1 hv
      rw [rowT_cons v r c hc, ih, if_pos hv, hc]
    · rw [if_neg hv]
      simp [rowT, oneEach, hv]
theorem bs1 {P : Program} {t : TypeId} {e : TypeId} (ok : AppOk P t e 1) (os : List Operand) (hz : (zc (zeroA P e)).length = 1) (cmp : List TypeId) (call : Call) (dst : Option Tmp) (ty : TypeId) (pos : String) (after : Array Edge) (gd : Option (Nat × Bool)) (ts : List AVal) (h : AHeap) (n : Nat) (ps : Array (Nat × Operand)) (hn : n ≤ 65536)
    (hps : ps.toList = numOs 0 os) (hl : os.length = n) :
    opA P cmp call ⟨dst, .buildSlice t n ps, ty, pos, after, gd⟩ ts h = bnd (argsA ts os) rowV := by
  rw [bs_ok ok cmp call dst ty pos after gd ts h n ps (by simpa using hn), hps, parts_num]
  cases ha : argsA ts os with
  | none => rfl
  | some us =>
    have hu : us.length = n := by
      have : ∀ (os : List Operand) (us : List AVal), argsA ts os = some us → us.length = os.length := by
        intro os
        induction os with
        | nil => intro us h; simp only [argsA, Option.some.injEq] at h; subst h; rfl
        | cons o r ih =>
          intro us h
          simp only [argsA] at h
          split at h
          · rename_i h1 h2
            simp only [Option.some.injEq] at h; subst h
            simp [ih _ h2]
          · cases h
      rw [this os us ha, hl]
    obtain ⟨z, hz'⟩ := List.length_eq_one_iff.1 hz
    have hr : (List.replicate n (zc (zeroA P e))).flatten = List.replicate n z := by
      rw [hz']
      clear hl hu hps hn
      induction n with
      | zero => rfl
      | succ m ih => simp only [List.replicate_succ, List.flatten_cons, ih]; rfl
    have hf := fill_row us (List.replicate n z) [] (by simpa using hu)
    simp only [List.nil_append, List.length_nil] at hf
    simp only [Option.map_some, bnd, hr, hf, rowV]
    have hc : ∀ vs : List AVal, oneEach vs = true → (vs.flatMap AVal.cells).length = vs.length := by
      intro vs
      induction vs with
      | nil => intro _; rfl
      | cons v r ih =>
        intro h
        simp only [oneEach, List.all_cons, Bool.and_eq_true, beq_iff_eq] at h
        simp only [List.flatMap_cons, List.length_append, List.length_cons, h.1, ih h.2]
        omega
    rw [← elems_row us]
    by_cases h1 : oneEach us = true
    · have : n = (us.flatMap AVal.cells).length := by rw [hc us h1, hu]
      unfold rowT
      rw [if_pos h1, if_pos h1]
      simp only [bnd]
      rw [this, chop_one]
    · unfold rowT; rw [if_neg h1, if_neg h1]
-- eqs
section
variable (P : Program) (cmp : List TypeId) (t : TypeId) (n : Bool)
theorem one_nilf : oneA .nilf = true := rfl
theorem one_nilp : oneA .nilp = true := rfl
theorem one_nili : oneA .nili = true := rfl
theorem one_eptr (cs : List AVal) (o : Nat) : oneA (.eptr cs o) = true := rfl
theorem one_iface (t : TypeId) (v : AVal) : oneA (.iface t v) = true := rfl
theorem pure_nilf : pureA .nilf = true := rfl
theorem pure_nilp : pureA .nilp = true := rfl
theorem pure_nili : pureA .nili = true := rfl
theorem refs_nilf : refs .nilf = [] := rfl
theorem refs_nilp : refs .nilp = [] := rfl
theorem refs_nili : refs .nili = [] := rfl
theorem refs_ptr (b o : Nat) : refs (.ptr b o) = [b] := rfl
theorem refs_func (f : FuncId) (p q : List AVal) : refs (.func f p q) = refsL p ++ refsL q := rfl
theorem s0_nilp : strip0 .nilp = .nilp := rfl
theorem s0_nili : strip0 .nili = .nili := rfl
theorem s0_iface (t : TypeId) (v : AVal) : strip0 (.iface t v) = .iface t v := rfl
theorem s2_nilf : strip2 .nilf = .nilf := rfl
theorem s2_nilp : strip2 .nilp = .nilp := rfl
theorem s2_nili : strip2 .nili = .nili := rfl
theorem s2_ptr (b o : Nat) : strip2 (.ptr b o) = .ptr b o := rfl
theorem s2_func (f : FuncId) (p q : List AVal) : strip2 (.func f p q) = .func f p q := rfl
theorem s3_nilf : strip3 .nilf = .nilf := rfl
theorem s3_nilp : strip3 .nilp = .nilp := rfl
theorem s3_nili : strip3 .nili = .nili := rfl
theorem s3_ptr (b o : Nat) : strip3 (.ptr b o) = .ptr b o := rfl
theorem s3_func (f : FuncId) (p q : List AVal) : strip3 (.func f p q) = .func f p q := rfl
theorem arg_nilf : argA .nilf = .nilf := rfl
theorem arg_nilp : argA .nilp = .nilp := rfl
theorem arg_nili : argA .nili = .nili := rfl
theorem len_encStrs (e : TypeId) (l : List (List UInt8)) : lenA (some (.slice e)) (encStrs l) = some (.val (.int .i64 l.length) .same) := by simp [encStrs, lenA]
def eqF (d : Option TypeDesc) (b : Bool) : Option AVal := match d with
  | some (.func ..) => some (.bool b)
  | _ => none
theorem eqF_func (a c : Array TypeId) (v b : Bool) : eqF (some (.func a c v)) b = some (.bool b) := rfl
theorem bin_enn : binA P cmp .eql t n .nilf .nilf = eqF (P.underlying t) true := by
  simp only [binA, eqT, eqF]
  cases P.underlying t with
  | none => rfl
  | some d => cases d <;> rfl
theorem bin_enf (f : FuncId) (p q : List AVal) : binA P cmp .eql t n .nilf (.func f p q) = eqF (P.underlying t) false := by
  simp only [binA, eqT, eqF]
  cases P.underlying t with
  | none => rfl
  | some d => cases d <;> rfl
theorem bin_efn (f : FuncId) (p q : List AVal) : binA P cmp .eql t n (.func f p q) .nilf = eqF (P.underlying t) false := by
  simp only [binA, eqT, eqF]
  cases P.underlying t with
  | none => rfl
  | some d => cases d <;> rfl
theorem bin_nnn : binA P cmp .neq t n .nilf .nilf = eqF (P.underlying t) false := by
  simp only [binA, eqT, eqF]
  cases P.underlying t with
  | none => rfl
  | some d => cases d <;> rfl
theorem bin_nnf (f : FuncId) (p q : List AVal) : binA P cmp .neq t n .nilf (.func f p q) = eqF (P.underlying t) true := by
  simp only [binA, eqT, eqF]
  cases P.underlying t with
  | none => rfl
  | some d => cases d <;> rfl
theorem bin_nfn (f : FuncId) (p q : List AVal) : binA P cmp .neq t n (.func f p q) .nilf = eqF (P.underlying t) true := by
  simp only [binA, eqT, eqF]
  cases P.underlying t with
  | none => rfl
  | some d => cases d <;> rfl
def eqBd (d : Option TypeDesc) (b : Bool) : Option AVal := match d with
  | some .bool => some (.bool b)
  | _ => none
theorem eqBd_bool (b : Bool) : eqBd (some .bool) b = some (.bool b) := rfl
theorem bin_beq (a b : Bool) : binA P cmp .eql t n (.bool a) (.bool b) = eqBd (P.underlying t) (a == b) := by
  simp only [binA, eqT, eqBd]
  cases P.underlying t with
  | none => rfl
  | some d => cases d <;> rfl
theorem bin_bne (a b : Bool) : binA P cmp .neq t n (.bool a) (.bool b) = eqBd (P.underlying t) (!(a == b)) := by
  simp only [binA, eqT, eqBd]
  cases P.underlying t with
  | none => rfl
  | some d => cases d <;> rfl
end
end Go.Ab
/- The equations together. -/
namespace Go.Ab
theorem sims : type_of% (And.intro (And.intro (And.intro (And.intro (And.intro (And.intro (And.intro (And.intro (@b_skip) (@b_exit)) (And.intro (@b_ret) (@b_region))) (And.intro (And.intro (@b_drawn) (@b_seq)) (And.intro (@b_cond) (And.intro (@b_block) (@b_loop))))) (And.intro (And.intro (And.intro (@b_nil) (@b_cons)) (And.intro (@wantB_true) (And.intro (@wantB_false) (@b_go)))) (And.intro (And.intro (@b_sk) (@b_consG)) (And.intro (@stepB_val) (And.intro (@stepB_val0) (@stepB_heap)))))) (And.intro (And.intro (And.intro (And.intro (@stepB_heap0) (@stepB_pan)) (And.intro (@ifB_true) (@stepD_val))) (And.intro (And.intro (@stepD_val0) (@stepD_heap)) (And.intro (@stepD_heap0) (And.intro (@fin_ret) (@fin_normal))))) (And.intro (And.intro (And.intro (@fin_pan) (@res_nil)) (And.intro (@res_tmp) (And.intro (@res_cell) (@leave_pure1)))) (And.intro (And.intro (@leave_pure2) (@bindS_normal)) (And.intro (@bindS_ret) (And.intro (@bindS_exit) (@bindS_pan))))))) (And.intro (And.intro (And.intro (And.intro (And.intro (@blockS_normal) (@blockS_ret)) (And.intro (@blockS_exit) (@blockS_exit'))) (And.intro (And.intro (@blockS_pan) (@condS_true)) (And.intro (@condS_false) (And.intro (@valO_some) (@bnd_some))))) (And.intro (And.intro (And.intro (@bnd_none) (@retO_ret)) (And.intro (@op_move) (And.intro (@op_assign) (@op_alloc)))) (And.intro (And.intro (@op_box) (@op_load)) (And.intro (@op_store) (And.intro (@op_nilCheck) (@op_binOp)))))) (And.intro (And.intro (And.intro (And.intro (@op_unOp) (@op_convert)) (And.intro (@op_pick) (And.intro (@op_fieldAddr) (@op_field)))) (And.intro (And.intro (@op_callF) (@op_callV)) (And.intro (@op_len) (And.intro (@op_append) (@op_indexAddr))))) (And.intro (And.intro (And.intro (@op_index) (@op_slice)) (And.intro (@op_makeFunc) (And.intro (@op_extract) (@op_max)))) (And.intro (And.intro (@op_min) (@upd_nil)) (And.intro (@upd_cons) (And.intro (@lit_le) (@lit_nat)))))))) (And.intro (And.intro (And.intro (And.intro (And.intro (And.intro (@guard_eq) (@wantV_bool)) (And.intro (@wantV_undef) (@c_tmp))) (And.intro (And.intro (@c_bool) (@c_int)) (And.intro (@c_str) (And.intro (@c_nilp) (@c_nils))))) (And.intro (And.intro (And.intro (@c_nilf) (@c_nili)) (And.intro (@c_func) (And.intro (@c_agg) (@ofVs_nil)))) (And.intro (And.intro (@ofVs_cons) (@ofV0_bool)) (And.intro (@ofV0_int) (And.intro (@ofV0_str) (@ofV0_nils)))))) (And.intro (And.intro (And.intro (And.intro (@ofV0_nilp) (@ofV0_nilf)) (And.intro (@ofV0_nili) (@args_nil))) (And.intro (And.intro (@args_cons) (@parts_nil)) (And.intro (@parts_cons) (And.intro (@opt_none) (@opt_some))))) (And.intro (And.intro (And.intro (@set_some) (@set_none)) (And.intro (@cells_agg) (And.intro (@cells_int) (@cells_bool)))) (And.intro (And.intro (@cells_str) (@cells_slice)) (And.intro (@cells_ptr) (And.intro (@cells_nilp) (@cells_func))))))) (And.intro (And.intro (And.intro (And.intro (And.intro (@cells_nilf) (@cells_iface)) (And.intro (@cells_nili) (@inBox_box))) (And.intro (And.intro (@load_ptr) (@load_eptr)) (And.intro (@partS_one) (And.intro (@partS_agg) (@inBoxS_box))))) (And.intro (And.intro (And.intro (@store_ptr) (@storeS_ok)) (And.intro (@len_str) (And.intro (@len_slice) (@bin_add)))) (And.intro (And.intro (@bin_sub) (@bin_mul)) (And.intro (@bin_quo) (And.intro (@bin_rem) (@bin_eql)))))) (And.intro (And.intro (And.intro (And.intro (@bin_neq) (@bin_lss)) (And.intro (@bin_leq) (And.intro (@bin_gtr) (@bin_geq)))) (And.intro (And.intro (@bin_or) (@bin_cat)) (And.intro (@bin_seql) (And.intro (@bin_sneq) (@un_not))))) (And.intro (And.intro (And.intro (@un_neg) (@max_int)) (And.intro (@min_int) (And.intro (@ia_slice) (@idxS_ok)))) (And.intro (And.intro (@ix_str) (@ixS_ok)) (And.intro (@arg_int) (And.intro (@arg_bool) (@arg_str))))))))) (And.intro (And.intro (And.intro (And.intro (And.intro (And.intro (And.intro (@arg_slice) (@arg_ptr)) (And.intro (@arg_func) (@arg_agg))) (And.intro (And.intro (@strip_int) (@strip_bool)) (And.intro (@strip_str) (And.intro (@strip_slice) (@strip_agg))))) (And.intro (And.intro (And.intro (@strip_tuple) (@strip2_int)) (And.intro (@strip2_bool) (And.intro (@strip2_str) (@strip2_slice)))) (And.intro (And.intro (@strip2_agg) (@refs_int)) (And.intro (@refs_bool) (And.intro (@refs_str) (@refs_free)))))) (And.intro (And.intro (And.intro (And.intro (@refs_full) (@refs_agg)) (And.intro (@refs_tuple) (@refsL_nil))) (And.intro (And.intro (@refsL_cons) (@tuple_one)) (And.intro (@tuple_nil) (And.intro (@tuple_two) (@of_same))))) (And.intro (And.intro (And.intro (@of_heap) (@isSame_same)) (And.intro (@pure_int) (And.intro (@pure_bool) (@pure_str)))) (And.intro (And.intro (@pure_free) (@one_int)) (And.intro (@one_bool) (And.intro (@one_str) (@one_slice))))))) (And.intro (And.intro (And.intro (And.intro (And.intro (@one_ptr) (@one_func)) (And.intro (@heap_at0) (@heap_at))) (And.intro (And.intro (@set_at0) (@set_at)) (And.intro (@n_lt0) (And.intro (@n_lts) (@n_le0))))) (And.intro (And.intro (And.intro (@n_les) (@n_lea)) (And.intro (@n_lta) (And.intro (@ask_move) (@ask_assign)))) (And.intro (And.intro (@ask_pick) (@ask_build)) (And.intro (@ask_buildSlice) (And.intro (@ask_nilCheck) (@ask_binOp)))))) (And.intro (And.intro (And.intro (And.intro (@ask_unOp) (@ask_convert)) (And.intro (@ask_makeInterface) (And.intro (@ask_makeFunc) (@ask_slice)))) (And.intro (And.intro (@ask_fieldAddr) (@ask_field)) (And.intro (@ask_indexAddr) (And.intro (@ask_index) (@ask_extract))))) (And.intro (And.intro (And.intro (@askL_ptr) (@askL_eptr)) (And.intro (@ask_load) (And.intro (@bindsAll_nil) (@ba_data)))) (And.intro (And.intro (@ba_chain) (@ba_guard)) (And.intro (@ba_phase) (And.intro (@ba_text) (@ba_gc)))))))) (And.intro (And.intro (And.intro (And.intro (And.intro (And.intro (@askW_true) (@askW_ptr)) (And.intro (@ask_store) (@ask_alloc))) (And.intro (And.intro (@ask_box) (@ask_append)) (And.intro (@ask_len) (And.intro (@ask_max) (@ask_min))))) (And.intro (And.intro (And.intro (@ask_call) (@zc_some)) (And.intro (@fillS_true) (And.intro (@fill_nil) (@fill_cons)))) (And.intro (And.intro (@setc_zero) (@setc_succ)) (And.intro (@chop_zero) (And.intro (@chop_succ) (@elems_nil)))))) (And.intro (And.intro (And.intro (And.intro (@elems_cons) (@elemS_true)) (And.intro (@elem_eq) (And.intro (@head_nil) (@head_cons)))) (And.intro (And.intro (@tk_full) (@tk_free)) (And.intro (@s0_int) (And.intro (@s0_bool) (@s0_str))))) (And.intro (And.intro (And.intro (@s0_slice) (@s0_ptr)) (And.intro (@s0_func) (And.intro (@s0_nilf) (@part_eq)))) (And.intro (And.intro (@rowS_nil) (@rowS_str)) (And.intro (@rowS_int) (And.intro (@rowV_eq) (@one_nilf))))))) (And.intro (And.intro (And.intro (And.intro (And.intro (@one_nilp) (@one_nili)) (And.intro (@one_eptr) (@one_iface))) (And.intro (And.intro (@pure_nilf) (@pure_nilp)) (And.intro (@pure_nili) (And.intro (@refs_nilf) (@refs_nilp))))) (And.intro (And.intro (And.intro (@refs_nili) (@refs_ptr)) (And.intro (@refs_func) (And.intro (@s0_nilp) (@s0_nili)))) (And.intro (And.intro (@s0_iface) (@s2_nilf)) (And.intro (@s2_nilp) (And.intro (@s2_nili) (@s2_ptr)))))) (And.intro (And.intro (And.intro (And.intro (@s2_func) (@s3_nilf)) (And.intro (@s3_nilp) (And.intro (@s3_nili) (@s3_ptr)))) (And.intro (And.intro (@s3_func) (@arg_nilf)) (And.intro (@arg_nilp) (And.intro (@arg_nili) (@len_encStrs))))) (And.intro (And.intro (And.intro (@eqF_func) (@bin_enn)) (And.intro (@bin_enf) (And.intro (@bin_efn) (@bin_nnn)))) (And.intro (And.intro (@bin_nnf) (@bin_nfn)) (And.intro (@eqBd_bool) (And.intro (@bin_beq) (@bin_bne)))))))))) := And.intro (And.intro (And.intro (And.intro (And.intro (And.intro (And.intro (And.intro (@b_skip) (@b_exit)) (And.intro (@b_ret) (@b_region))) (And.intro (And.intro (@b_drawn) (@b_seq)) (And.intro (@b_cond) (And.intro (@b_block) (@b_loop))))) (And.intro (And.intro (And.intro (@b_nil) (@b_cons)) (And.intro (@wantB_true) (And.intro (@wantB_false) (@b_go)))) (And.intro (And.intro (@b_sk) (@b_consG)) (And.intro (@stepB_val) (And.intro (@stepB_val0) (@stepB_heap)))))) (And.intro (And.intro (And.intro (And.intro (@stepB_heap0) (@stepB_pan)) (And.intro (@ifB_true) (@stepD_val))) (And.intro (And.intro (@stepD_val0) (@stepD_heap)) (And.intro (@stepD_heap0) (And.intro (@fin_ret) (@fin_normal))))) (And.intro (And.intro (And.intro (@fin_pan) (@res_nil)) (And.intro (@res_tmp) (And.intro (@res_cell) (@leave_pure1)))) (And.intro (And.intro (@leave_pure2) (@bindS_normal)) (And.intro (@bindS_ret) (And.intro (@bindS_exit) (@bindS_pan))))))) (And.intro (And.intro (And.intro (And.intro (And.intro (@blockS_normal) (@blockS_ret)) (And.intro (@blockS_exit) (@blockS_exit'))) (And.intro (And.intro (@blockS_pan) (@condS_true)) (And.intro (@condS_false) (And.intro (@valO_some) (@bnd_some))))) (And.intro (And.intro (And.intro (@bnd_none) (@retO_ret)) (And.intro (@op_move) (And.intro (@op_assign) (@op_alloc)))) (And.intro (And.intro (@op_box) (@op_load)) (And.intro (@op_store) (And.intro (@op_nilCheck) (@op_binOp)))))) (And.intro (And.intro (And.intro (And.intro (@op_unOp) (@op_convert)) (And.intro (@op_pick) (And.intro (@op_fieldAddr) (@op_field)))) (And.intro (And.intro (@op_callF) (@op_callV)) (And.intro (@op_len) (And.intro (@op_append) (@op_indexAddr))))) (And.intro (And.intro (And.intro (@op_index) (@op_slice)) (And.intro (@op_makeFunc) (And.intro (@op_extract) (@op_max)))) (And.intro (And.intro (@op_min) (@upd_nil)) (And.intro (@upd_cons) (And.intro (@lit_le) (@lit_nat)))))))) (And.intro (And.intro (And.intro (And.intro (And.intro (And.intro (@guard_eq) (@wantV_bool)) (And.intro (@wantV_undef) (@c_tmp))) (And.intro (And.intro (@c_bool) (@c_int)) (And.intro (@c_str) (And.intro (@c_nilp) (@c_nils))))) (And.intro (And.intro (And.intro (@c_nilf) (@c_nili)) (And.intro (@c_func) (And.intro (@c_agg) (@ofVs_nil)))) (And.intro (And.intro (@ofVs_cons) (@ofV0_bool)) (And.intro (@ofV0_int) (And.intro (@ofV0_str) (@ofV0_nils)))))) (And.intro (And.intro (And.intro (And.intro (@ofV0_nilp) (@ofV0_nilf)) (And.intro (@ofV0_nili) (@args_nil))) (And.intro (And.intro (@args_cons) (@parts_nil)) (And.intro (@parts_cons) (And.intro (@opt_none) (@opt_some))))) (And.intro (And.intro (And.intro (@set_some) (@set_none)) (And.intro (@cells_agg) (And.intro (@cells_int) (@cells_bool)))) (And.intro (And.intro (@cells_str) (@cells_slice)) (And.intro (@cells_ptr) (And.intro (@cells_nilp) (@cells_func))))))) (And.intro (And.intro (And.intro (And.intro (And.intro (@cells_nilf) (@cells_iface)) (And.intro (@cells_nili) (@inBox_box))) (And.intro (And.intro (@load_ptr) (@load_eptr)) (And.intro (@partS_one) (And.intro (@partS_agg) (@inBoxS_box))))) (And.intro (And.intro (And.intro (@store_ptr) (@storeS_ok)) (And.intro (@len_str) (And.intro (@len_slice) (@bin_add)))) (And.intro (And.intro (@bin_sub) (@bin_mul)) (And.intro (@bin_quo) (And.intro (@bin_rem) (@bin_eql)))))) (And.intro (And.intro (And.intro (And.intro (@bin_neq) (@bin_lss)) (And.intro (@bin_leq) (And.intro (@bin_gtr) (@bin_geq)))) (And.intro (And.intro (@bin_or) (@bin_cat)) (And.intro (@bin_seql) (And.intro (@bin_sneq) (@un_not))))) (And.intro (And.intro (And.intro (@un_neg) (@max_int)) (And.intro (@min_int) (And.intro (@ia_slice) (@idxS_ok)))) (And.intro (And.intro (@ix_str) (@ixS_ok)) (And.intro (@arg_int) (And.intro (@arg_bool) (@arg_str))))))))) (And.intro (And.intro (And.intro (And.intro (And.intro (And.intro (And.intro (@arg_slice) (@arg_ptr)) (And.intro (@arg_func) (@arg_agg))) (And.intro (And.intro (@strip_int) (@strip_bool)) (And.intro (@strip_str) (And.intro (@strip_slice) (@strip_agg))))) (And.intro (And.intro (And.intro (@strip_tuple) (@strip2_int)) (And.intro (@strip2_bool) (And.intro (@strip2_str) (@strip2_slice)))) (And.intro (And.intro (@strip2_agg) (@refs_int)) (And.intro (@refs_bool) (And.intro (@refs_str) (@refs_free)))))) (And.intro (And.intro (And.intro (And.intro (@refs_full) (@refs_agg)) (And.intro (@refs_tuple) (@refsL_nil))) (And.intro (And.intro (@refsL_cons) (@tuple_one)) (And.intro (@tuple_nil) (And.intro (@tuple_two) (@of_same))))) (And.intro (And.intro (And.intro (@of_heap) (@isSame_same)) (And.intro (@pure_int) (And.intro (@pure_bool) (@pure_str)))) (And.intro (And.intro (@pure_free) (@one_int)) (And.intro (@one_bool) (And.intro (@one_str) (@one_slice))))))) (And.intro (And.intro (And.intro (And.intro (And.intro (@one_ptr) (@one_func)) (And.intro (@heap_at0) (@heap_at))) (And.intro (And.intro (@set_at0) (@set_at)) (And.intro (@n_lt0) (And.intro (@n_lts) (@n_le0))))) (And.intro (And.intro (And.intro (@n_les) (@n_lea)) (And.intro (@n_lta) (And.intro (@ask_move) (@ask_assign)))) (And.intro (And.intro (@ask_pick) (@ask_build)) (And.intro (@ask_buildSlice) (And.intro (@ask_nilCheck) (@ask_binOp)))))) (And.intro (And.intro (And.intro (And.intro (@ask_unOp) (@ask_convert)) (And.intro (@ask_makeInterface) (And.intro (@ask_makeFunc) (@ask_slice)))) (And.intro (And.intro (@ask_fieldAddr) (@ask_field)) (And.intro (@ask_indexAddr) (And.intro (@ask_index) (@ask_extract))))) (And.intro (And.intro (And.intro (@askL_ptr) (@askL_eptr)) (And.intro (@ask_load) (And.intro (@bindsAll_nil) (@ba_data)))) (And.intro (And.intro (@ba_chain) (@ba_guard)) (And.intro (@ba_phase) (And.intro (@ba_text) (@ba_gc)))))))) (And.intro (And.intro (And.intro (And.intro (And.intro (And.intro (@askW_true) (@askW_ptr)) (And.intro (@ask_store) (@ask_alloc))) (And.intro (And.intro (@ask_box) (@ask_append)) (And.intro (@ask_len) (And.intro (@ask_max) (@ask_min))))) (And.intro (And.intro (And.intro (@ask_call) (@zc_some)) (And.intro (@fillS_true) (And.intro (@fill_nil) (@fill_cons)))) (And.intro (And.intro (@setc_zero) (@setc_succ)) (And.intro (@chop_zero) (And.intro (@chop_succ) (@elems_nil)))))) (And.intro (And.intro (And.intro (And.intro (@elems_cons) (@elemS_true)) (And.intro (@elem_eq) (And.intro (@head_nil) (@head_cons)))) (And.intro (And.intro (@tk_full) (@tk_free)) (And.intro (@s0_int) (And.intro (@s0_bool) (@s0_str))))) (And.intro (And.intro (And.intro (@s0_slice) (@s0_ptr)) (And.intro (@s0_func) (And.intro (@s0_nilf) (@part_eq)))) (And.intro (And.intro (@rowS_nil) (@rowS_str)) (And.intro (@rowS_int) (And.intro (@rowV_eq) (@one_nilf))))))) (And.intro (And.intro (And.intro (And.intro (And.intro (@one_nilp) (@one_nili)) (And.intro (@one_eptr) (@one_iface))) (And.intro (And.intro (@pure_nilf) (@pure_nilp)) (And.intro (@pure_nili) (And.intro (@refs_nilf) (@refs_nilp))))) (And.intro (And.intro (And.intro (@refs_nili) (@refs_ptr)) (And.intro (@refs_func) (And.intro (@s0_nilp) (@s0_nili)))) (And.intro (And.intro (@s0_iface) (@s2_nilf)) (And.intro (@s2_nilp) (And.intro (@s2_nili) (@s2_ptr)))))) (And.intro (And.intro (And.intro (And.intro (@s2_func) (@s3_nilf)) (And.intro (@s3_nilp) (And.intro (@s3_nili) (@s3_ptr)))) (And.intro (And.intro (@s3_func) (@arg_nilf)) (And.intro (@arg_nilp) (And.intro (@arg_nili) (@len_encStrs))))) (And.intro (And.intro (And.intro (@eqF_func) (@bin_enn)) (And.intro (@bin_enf) (And.intro (@bin_efn) (@bin_nnn)))) (And.intro (And.intro (@bin_nnf) (@bin_nfn)) (And.intro (@eqBd_bool) (And.intro (@bin_beq) (@bin_bne)))))))))
theorem core : type_of% (And.intro (And.intro (And.intro (And.intro (And.intro (@List.map_cons.{0,0}) (And.intro (@List.map_nil.{0,0}) (@List.length_cons.{0}))) (And.intro (And.intro (@List.length_nil.{0}) (@List.length_append.{0})) (And.intro (@List.replicate_succ.{0}) (@List.replicate_zero.{0})))) (And.intro (And.intro (@List.cons_append.{0}) (And.intro (@List.nil_append.{0}) (@List.append_nil.{0}))) (And.intro (And.intro (@List.getElem?_cons_zero.{0}) (@List.getElem?_cons_succ.{0})) (And.intro (@List.set_cons_zero.{0}) (@List.set_cons_succ.{0}))))) (And.intro (And.intro (And.intro (@Nat.zero_add) (And.intro (@Option.map_some.{0,0}) (@Int.toNat_natCast))) (And.intro (And.intro (@decide_true) (@decide_false)) (And.intro (@List.drop_zero.{0}) (@beq_self_eq_true.{0})))) (And.intro (And.intro (@Bool.and_self) (And.intro (@List.length_map.{0,0}) (@List.all_cons.{0}))) (And.intro (And.intro (@List.all_nil.{0}) (@List.append_assoc.{0})) (And.intro (@Bool.not_true) (@Bool.not_false)))))) (And.intro (And.intro (And.intro (And.intro (@Bool.or_self) (And.intro (@Bool.true_or) (@Bool.or_true))) (And.intro (And.intro (@Bool.true_and) (@Bool.and_true)) (And.intro (@Bool.false_and) (@Bool.and_false)))) (And.intro (And.intro (@Bool.false_or) (And.intro (@Bool.or_false) (@Int.natCast_nonneg))) (And.intro (And.intro (@Nat.le_refl) (@List.take_succ_cons.{0})) (And.intro (@List.take_zero.{0}) (@List.take_nil.{0}))))) (And.intro (And.intro (And.intro (@List.drop_succ_cons.{0}) (And.intro (@List.drop_nil.{0}) (@List.flatten_cons.{0}))) (And.intro (And.intro (@List.flatten_nil.{0}) (@List.cons_ne_nil.{0})) (And.intro (@Nat.one_mul) (@Nat.zero_mul)))) (And.intro (And.intro (@beq_true) (And.intro (@beq_false) (@not_false_eq_true))) (And.intro (And.intro (@Bool.not_eq_true) (@if_true.{1})) (And.intro (@if_false.{1}) (@Bool.false_eq_true))))))) := And.intro (And.intro (And.intro (And.intro (And.intro (@List.map_cons.{0,0}) (And.intro (@List.map_nil.{0,0}) (@List.length_cons.{0}))) (And.intro (And.intro (@List.length_nil.{0}) (@List.length_append.{0})) (And.intro (@List.replicate_succ.{0}) (@List.replicate_zero.{0})))) (And.intro (And.intro (@List.cons_append.{0}) (And.intro (@List.nil_append.{0}) (@List.append_nil.{0}))) (And.intro (And.intro (@List.getElem?_cons_zero.{0}) (@List.getElem?_cons_succ.{0})) (And.intro (@List.set_cons_zero.{0}) (@List.set_cons_succ.{0}))))) (And.intro (And.intro (And.intro (@Nat.zero_add) (And.intro (@Option.map_some.{0,0}) (@Int.toNat_natCast))) (And.intro (And.intro (@decide_true) (@decide_false)) (And.intro (@List.drop_zero.{0}) (@beq_self_eq_true.{0})))) (And.intro (And.intro (@Bool.and_self) (And.intro (@List.length_map.{0,0}) (@List.all_cons.{0}))) (And.intro (And.intro (@List.all_nil.{0}) (@List.append_assoc.{0})) (And.intro (@Bool.not_true) (@Bool.not_false)))))) (And.intro (And.intro (And.intro (And.intro (@Bool.or_self) (And.intro (@Bool.true_or) (@Bool.or_true))) (And.intro (And.intro (@Bool.true_and) (@Bool.and_true)) (And.intro (@Bool.false_and) (@Bool.and_false)))) (And.intro (And.intro (@Bool.false_or) (And.intro (@Bool.or_false) (@Int.natCast_nonneg))) (And.intro (And.intro (@Nat.le_refl) (@List.take_succ_cons.{0})) (And.intro (@List.take_zero.{0}) (@List.take_nil.{0}))))) (And.intro (And.intro (And.intro (@List.drop_succ_cons.{0}) (And.intro (@List.drop_nil.{0}) (@List.flatten_cons.{0}))) (And.intro (And.intro (@List.flatten_nil.{0}) (@List.cons_ne_nil.{0})) (And.intro (@Nat.one_mul) (@Nat.zero_mul)))) (And.intro (And.intro (@beq_true) (And.intro (@beq_false) (@not_false_eq_true))) (And.intro (And.intro (@Bool.not_eq_true) (@if_true.{1})) (And.intro (@if_false.{1}) (@Bool.false_eq_true))))))
theorem ats : type_of% (And.intro (And.intro (And.intro (And.intro (@upd_nil) (@upd_cons)) (And.intro (@List.map_cons.{0,0}) (@List.map_nil.{0,0}))) (And.intro (And.intro (@List.cons_append.{0}) (@List.nil_append.{0})) (And.intro (@List.append_nil.{0}) (@List.getD_cons_succ.{0})))) (And.intro (And.intro (And.intro (@List.getD_cons_zero.{0}) (@List.set_cons_succ.{0})) (And.intro (@List.set_cons_zero.{0}) (@List.drop_succ_cons.{0}))) (And.intro (And.intro (@List.drop_zero.{0}) (@List.length_cons.{0})) (And.intro (@List.length_nil.{0}) (@List.append_assoc.{0}))))) := And.intro (And.intro (And.intro (And.intro (@upd_nil) (@upd_cons)) (And.intro (@List.map_cons.{0,0}) (@List.map_nil.{0,0}))) (And.intro (And.intro (@List.cons_append.{0}) (@List.nil_append.{0})) (And.intro (@List.append_nil.{0}) (@List.getD_cons_succ.{0})))) (And.intro (And.intro (And.intro (@List.getD_cons_zero.{0}) (@List.set_cons_succ.{0})) (And.intro (@List.set_cons_zero.{0}) (@List.drop_succ_cons.{0}))) (And.intro (And.intro (@List.drop_zero.{0}) (@List.length_cons.{0})) (And.intro (@List.length_nil.{0}) (@List.append_assoc.{0}))))
theorem pe : type_of% (And.intro (And.intro (And.intro (And.intro (@PExpr.len) (@PExpr.ones)) (And.intro (@PExpr.strip) (And.intro (@PExpr.norefs) (@PExpr.get0)))) (And.intro (And.intro (@PExpr.get1) (And.intro (@PExpr.get2) (@PExpr.get3))) (And.intro (@PExpr.get4) (And.intro (@PExpr.take) (@PExpr.set4))))) (And.intro (And.intro (And.intro (@PExpr.takeA) (@PExpr.dropA)) (And.intro (@PExpr.drop) (And.intro (@PExpr.pures) (@strip_encStrs)))) (And.intro (And.intro (@arg_encStrs) (And.intro (@cells_encStrs) (@one_encStrs))) (And.intro (@pure_encStrs) (And.intro (@refs_encStrs) (@strip3_encStrs)))))) := And.intro (And.intro (And.intro (And.intro (@PExpr.len) (@PExpr.ones)) (And.intro (@PExpr.strip) (And.intro (@PExpr.norefs) (@PExpr.get0)))) (And.intro (And.intro (@PExpr.get1) (And.intro (@PExpr.get2) (@PExpr.get3))) (And.intro (@PExpr.get4) (And.intro (@PExpr.take) (@PExpr.set4))))) (And.intro (And.intro (And.intro (@PExpr.takeA) (@PExpr.dropA)) (And.intro (@PExpr.drop) (And.intro (@PExpr.pures) (@strip_encStrs)))) (And.intro (And.intro (@arg_encStrs) (And.intro (@cells_encStrs) (@one_encStrs))) (And.intro (@pure_encStrs) (And.intro (@refs_encStrs) (@strip3_encStrs)))))
end Go.Ab
