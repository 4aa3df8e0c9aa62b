/- Equations by which code is run on symbolic values. -/
import Derived.Test.YtnmejllfnndcbaaGreatDoorAbLim
namespace Go.Ab
section
variable {P : Program} {cmp : List TypeId} {call : Call} {lp : Lp}
theorem sim_skip (s : St) : codeA P cmp call lp .skip s = some (.normal, s) := rfl
theorem sim_exit (id : Nat) (s : St) : codeA P cmp call lp (.exit id) s = some (.exit id, s) := rfl
theorem sim_ret (s : St) : codeA P cmp call lp .ret s = some (.ret, s) := rfl
theorem sim_region (id : Nat) (ops : Array Oper) (s : St) : codeA P cmp call lp (.region id ops false) s = opsA P cmp call ops.toList ops.toList s := rfl
def bindS (r : Option (AEx × St)) (k : St → Option (AEx × St)) : Option (AEx × St) := match r with
  | some (.normal, s') => k s'
  | r => r
def blockS (id : Nat) (r : Option (AEx × St)) : Option (AEx × St) := match r with
  | some (.exit j, s') => if j = id then some (.normal, s') else some (.exit j, s')
  | r => r
def condS (r : Option AVal) (a b : St → Option (AEx × St)) (s : St) : Option (AEx × St) := match r with
  | some (.bool true) => a s
  | some (.bool false) => b s
  | _ => none
theorem sim_seq (a b : Code) (s : St) : codeA P cmp call lp (.seq a b) s = bindS (codeA P cmp call lp a s) (codeA P cmp call lp b) := rfl
theorem sim_cond (c : Operand) (a b : Code) (s : St) : codeA P cmp call lp (.cond c a b) s = condS (constA c s.tmps) (codeA P cmp call lp a) (codeA P cmp call lp b) s := rfl
theorem sim_block (id : Nat) (b : Code) (s : St) : codeA P cmp call lp (.block id b) s = blockS id (codeA P cmp call lp b s) := rfl
theorem sim_loop (b : Code) (s : St) : codeA P cmp call lp (.loop b) s = lp (codeA P cmp call lp b) s := rfl
theorem bindS_normal (s : St) (k : St → Option (AEx × St)) : bindS (some (.normal, s)) k = k s := rfl
theorem bindS_ret (s : St) (k : St → Option (AEx × St)) : bindS (some (.ret, s)) k = some (.ret, s) := rfl
theorem bindS_exit (i : Nat) (s : St) (k : St → Option (AEx × St)) : bindS (some (.exit i, s)) k = some (.exit i, s) := rfl
theorem bindS_pan (v : AVal) (s : St) (k : St → Option (AEx × St)) : bindS (some (.pan v, s)) k = some (.pan v, s) := rfl
theorem blockS_normal (i : Nat) (s : St) : blockS i (some (.normal, s)) = some (.normal, s) := rfl
theorem blockS_ret (i : Nat) (s : St) : blockS i (some (.ret, s)) = some (.ret, s) := rfl
theorem blockS_exit (i : Nat) (s : St) : blockS i (some (.exit i, s)) = some (.normal, s) := by simp [blockS]
theorem blockS_exit' (i j : Nat) (s : St) (h : (j == i) = false) : blockS i (some (.exit j, s)) = some (.exit j, s) := by simp at h; simp [blockS, h]
theorem blockS_pan (i : Nat) (v : AVal) (s : St) : blockS i (some (.pan v, s)) = some (.pan v, s) := rfl
theorem condS_true (a b : St → Option (AEx × St)) (s : St) : condS (some (.bool true)) a b s = a s := rfl
theorem condS_false (a b : St → Option (AEx × St)) (s : St) : condS (some (.bool false)) a b s = b s := rfl

/-- One operation that is wanted. -/
def stepO (r : Option OR) (dst : Option Tmp) (s : St) (k : St → Option (AEx × St)) : Option (AEx × St) := match r with
  | some (.val v f) => k ⟨setT s.tmps dst v, f.of s.heap, f.dirt ++ s.dirty⟩
  | some (.pan v f) => some (.pan v, ⟨s.tmps, f.of s.heap, f.dirt ++ s.dirty⟩)
  | none => none
theorem ops_nil (ops : List Oper) (s : St) : opsA P cmp call ops [] s = some (.normal, s) := rfl
theorem ops_cons (ops : List Oper) (dst : Option Tmp) (op : Op) (t : TypeId) (pos : String) (after : Array Edge) (r : List Oper) (s : St) :
    opsA P cmp call ops ({ dst, op, type := t, pos, after, guard := none } :: r) s = stepO (opA P cmp call { dst, op, type := t, pos, after, guard := none } s.tmps s.heap) dst s (opsA P cmp call ops r) := by
  rw [opsA]; rfl
theorem stepO_val (v : AVal) (d : Tmp) (ts : List AVal) (h : AHeap) (dd : List Nat) (k : St → Option (AEx × St)) : stepO (some (.val v .same)) (some d) ⟨ts, h, dd⟩ k = k ⟨ts.set d v, h, dd⟩ := rfl
theorem stepO_val0 (v : AVal) (ts : List AVal) (h : AHeap) (dd : List Nat) (k : St → Option (AEx × St)) : stepO (some (.val v .same)) none ⟨ts, h, dd⟩ k = k ⟨ts, h, dd⟩ := rfl
theorem stepO_heap (v : AVal) (d : Tmp) (ts : List AVal) (h h' : AHeap) (dd d' : List Nat) (k : St → Option (AEx × St)) : stepO (some (.val v (.heap h' d'))) (some d) ⟨ts, h, dd⟩ k = k ⟨ts.set d v, h', d' ++ dd⟩ := rfl
theorem stepO_heap0 (v : AVal) (ts : List AVal) (h h' : AHeap) (dd d' : List Nat) (k : St → Option (AEx × St)) : stepO (some (.val v (.heap h' d'))) none ⟨ts, h, dd⟩ k = k ⟨ts, h', d' ++ dd⟩ := rfl
end

def valO (x : Option AVal) : Option OR := match x with | some a => some (.val a .same) | none => none
theorem valO_some (a : AVal) : valO (some a) = some (.val a .same) := rfl
def bnd {α β : Type} (x : Option α) (k : α → Option β) : Option β := match x with | some a => k a | none => none
theorem bnd_some {α β : Type} (a : α) (k : α → Option β) : bnd (some a) k = k a := rfl
theorem bnd_none {α β : Type} (k : α → Option β) : bnd none k = none := rfl
def retO (r : Option CR) : Option OR := match r with | some r => some (outOf r) | none => none
theorem retO_ret (v : AVal) (e : Eff) : retO (some (.ret v e)) = some (.val v e) := rfl

/-- Where a part of a struct or an array lies that is built. -/
def bplace (P : Program) (t : TypeId) (i : Nat) : Option (Nat × Nat) := match P.underlying t with
  | some (.struct fs) => (match fs[i]? with | some f => (sizeA P f.type).map fun s => (f.offset, s) | none => none)
  | some (.array _ e) => (match sizeA P e with | some s => some (i * s, s) | none => none)
  | _ => none
def bok (P : Program) (t : TypeId) : Bool := match P.underlying t with
  | some (.struct fs) => fs.all fun f => (P.info? f.type).isSome
  | some (.array _ e) => (sizeA P e).isSome
  | _ => false
def indexAddrA (P : Program) (u : Option TypeDesc) (a b : AVal) : Option OR := match u, a, b with
  | some (.slice e), .slice es _, .int _ n => (match es[n.toNat]?, sizeA P e with
      | some cs, some s => if 0 ≤ n && cs.length == s then some (.val (.eptr cs 0) .same) else none
      | _, _ => none)
  | some (.array len e), .ptr b o, .int _ n => (match sizeA P e with
      | some s => if 0 ≤ n && n < len then some (.val (.ptr b (o + n.toNat * s)) .same) else none
      | none => none)
  | _, _, _ => none
def indexA (P : Program) (u : Option TypeDesc) (a b : AVal) : Option OR := match u, a, b with
  | some .string, .str s, .int _ n => (match s[n.toNat]? with
      | some b => if 0 ≤ n then some (.val (.int .u8 b.toNat) .same) else none
      | none => none)
  | some (.array len e), .agg cs, .int _ n => (match sizeA P e with
      | some s => if 0 ≤ n && n < len then valO (partA P e cs (n.toNat * s)) else none
      | none => none)
  | _, _, _ => none
def lenA (u : Option TypeDesc) (a : AVal) : Option OR := match a, u with
  | .str s, some .string => if s.length ≤ strMax then some (.val (.int .i64 s.length) .same) else none
  | .slice es _, some (.slice _) => some (.val (.int .i64 es.length) .same)
  | _, _ => none
section
variable (P : Program) (cmp : List TypeId) (call : Call) (dst : Option Tmp) (ty : TypeId) (pos : String) (after : Array Edge) (gd : Option (Nat × Bool)) (ts : List AVal) (h : AHeap)
theorem op_move (x : Operand) : opA P cmp call ⟨dst, .move x, ty, pos, after, gd⟩ ts h = valO (constA x ts) := rfl
theorem op_assign (x : Operand) : opA P cmp call ⟨dst, .assign x, ty, pos, after, gd⟩ ts h = valO (constA x ts) := rfl
theorem op_alloc (t : TypeId) : opA P cmp call ⟨dst, .alloc t, ty, pos, after, gd⟩ ts h = bnd (zeroA P t) fun z => some (.val (.ptr h.length 0) (.heap (h ++ [.box z.cells]) [])) := by
  simp only [opA]; cases zeroA P t <;> rfl
theorem op_box (t : TypeId) (x : Operand) : opA P cmp call ⟨dst, .box t x, ty, pos, after, gd⟩ ts h = bnd (constA x ts) fun a => some (.val (.ptr h.length 0) (.heap (h ++ [.box a.cells]) [])) := by
  simp only [opA]; cases constA x ts <;> rfl
theorem op_load (t : TypeId) (x : Operand) : opA P cmp call ⟨dst, .load t x, ty, pos, after, gd⟩ ts h = bnd (constA x ts) fun a => valO (loadA P h t a) := by
  simp only [opA]
  cases hc : constA x ts with
  | none => rfl
  | some a => simp only [bnd]; cases loadA P h t a <;> rfl
theorem op_store (t : TypeId) (a x : Operand) : opA P cmp call ⟨dst, .store t a x, ty, pos, after, gd⟩ ts h =
    bnd (constA a ts) fun p => bnd (constA x ts) fun v => bnd (storeA P h t p v) fun q => some (.val .undef (.heap q.1 [q.2])) := by
  simp only [opA]
  cases ha : constA a ts with
  | none => rfl
  | some p => cases hx : constA x ts with
    | none => rfl
    | some v => simp only [bnd]; cases storeA P h t p v <;> rfl
theorem op_nilCheck (x : Operand) : opA P cmp call ⟨dst, .nilCheck x, ty, pos, after, gd⟩ ts h = bnd (constA x ts) fun a => match a with
    | .ptr b o => some (.val (.ptr b o) .same) | .eptr cs o => some (.val (.eptr cs o) .same) | .func f p q => some (.val (.func f p q) .same) | _ => none := by
  simp only [opA]
  cases hc : constA x ts with
  | none => rfl
  | some a => cases a <;> rfl
theorem op_binOp (op : BinOp) (t t2 : TypeId) (x y : Operand) : opA P cmp call ⟨dst, .binOp op t x y t2, ty, pos, after, gd⟩ ts h =
    bnd (constA x ts) fun a => bnd (constA y ts) fun b => valO (binA P cmp op t (isConst x || isConst y) a b) := by
  simp only [opA]
  cases ha : constA x ts with
  | none => rfl
  | some a => cases hy : constA y ts with
    | none => rfl
    | some b => simp only [bnd]; cases binA P cmp op t (isConst x || isConst y) a b <;> rfl
theorem op_unOp (op : UnOp) (t : TypeId) (x : Operand) : opA P cmp call ⟨dst, .unOp op t x, ty, pos, after, gd⟩ ts h = bnd (constA x ts) fun a => valO (unA op a) := by
  simp only [opA]
  cases hc : constA x ts with
  | none => rfl
  | some a => simp only [bnd]; cases unA op a <;> rfl
theorem op_convert (s d : TypeId) (x : Operand) : opA P cmp call ⟨dst, .convert s d x, ty, pos, after, gd⟩ ts h = bnd (constA x ts) fun a => valO (convA P s d a) := by
  simp only [opA]
  cases hc : constA x ts with
  | none => rfl
  | some a => simp only [bnd]; cases convA P s d a <;> rfl
theorem op_pick (c x y : Operand) : opA P cmp call ⟨dst, .pick c x y, ty, pos, after, gd⟩ ts h = bnd (constA c ts) fun b => match b with
    | .bool true => valO (constA x ts) | .bool false => valO (constA y ts) | _ => none := by
  simp only [opA]
  cases hc : constA c ts with
  | none => rfl
  | some a => cases a <;> try rfl
              rename_i b; cases b <;> rfl
theorem op_fieldAddr (t : TypeId) (x : Operand) (f : Nat) : opA P cmp call ⟨dst, .fieldAddr t x f, ty, pos, after, gd⟩ ts h =
    bnd (fieldPlaceA P t f) fun p => bnd (constA x ts) fun a => match a with
      | .ptr b o => some (.val (.ptr b (o + p.1)) .same) | .eptr cs o => some (.val (.eptr cs (o + p.1)) .same) | _ => none := by
  simp only [opA]
  cases hf : fieldPlaceA P t f with
  | none => rfl
  | some p =>
    obtain ⟨a, b⟩ := p
    cases hc : constA x ts with
    | none => rfl
    | some v => cases v <;> rfl
theorem op_field (t : TypeId) (x : Operand) (f : Nat) : opA P cmp call ⟨dst, .field t x f, ty, pos, after, gd⟩ ts h =
    bnd (fieldPlaceA P t f) fun p => bnd (constA x ts) fun a => match a with | .agg cs => valO (partA P p.2 cs p.1) | _ => none := by
  simp only [opA]
  cases hf : fieldPlaceA P t f with
  | none => rfl
  | some p =>
    obtain ⟨a, b⟩ := p
    cases hc : constA x ts with
    | none => rfl
    | some v => cases v <;> rfl
theorem op_callF (f : FuncId) (args : Array Operand) (ats : Array TypeId) : opA P cmp call ⟨dst, .call { callee := .value (.func f), args, argTypes := ats }, ty, pos, after, gd⟩ ts h =
    bnd (argsA ts args.toList) fun as => retO (callA call h f (as.map argA)) := by
  simp only [opA, constA]
  cases argsA ts args.toList with
  | none => rfl
  | some as => simp only [List.nil_append, List.append_nil]; rfl
theorem op_callV (t : Tmp) (args : Array Operand) (ats : Array TypeId) : opA P cmp call ⟨dst, .call { callee := .value (.tmp t), args, argTypes := ats }, ty, pos, after, gd⟩ ts h =
    bnd (ts[t]?) fun f => bnd (argsA ts args.toList) fun as => match f with | .func g first cap => retO (callA call h g (first ++ as.map argA ++ cap)) | _ => none := by
  simp only [opA, constA]
  cases hc : ts[t]? with
  | none => rfl
  | some v =>
    cases argsA ts args.toList with
    | none => cases v <;> rfl
    | some as => cases v <;> rfl
theorem op_len (x : Operand) (t : TypeId) : opA P cmp call ⟨dst, .call { callee := .builtin .len, args := #[x], argTypes := #[t] }, ty, pos, after, gd⟩ ts h =
    bnd (constA x ts) fun a => lenA (P.underlying t) a := by
  simp only [opA, argsA]
  have h0 : (#[t] : Array TypeId)[0]? = some t := rfl
  simp only [h0]
  cases hc : constA x ts with
  | none => rfl
  | some v =>
    simp only [bnd]
    cases hu : P.underlying t with
    | none => cases v <;> rfl
    | some d => cases d <;> cases v <;> rfl
theorem op_append (x y : Operand) (t : TypeId) : opA P cmp call ⟨dst, .call { callee := .builtin .append, args := #[x, y], argTypes := #[t, t] }, ty, pos, after, gd⟩ ts h =
    bnd (constA x ts) fun a => bnd (constA y ts) fun b => bnd (appendA P h t a b) fun q => some (.val q.1 q.2) := by
  simp only [opA, argsA]
  have h0 : (#[t, t] : Array TypeId)[0]? = some t := rfl
  have h1 : (#[t, t] : Array TypeId)[1]? = some t := rfl
  simp only [h0, h1]
  cases hc : constA x ts with
  | none => rfl
  | some a => cases hy : constA y ts with
    | none => rfl
    | some b =>
      simp only [bnd]
      cases ha : appendA P h t a b with
      | none => rfl
      | some q => simp
theorem op_build (t : TypeId) (ps : Array (Nat × Operand)) (z : List AVal) (hz : zeroA P t = some (.agg z)) (hb : bok P t = true) : opA P cmp call ⟨dst, .build t ps, ty, pos, after, gd⟩ ts h =
    bnd (partsA ts ps.toList) fun us => valO ((fillA (bplace P t) z us).map .agg) := by
  simp only [opA, hz]
  unfold bok at hb
  cases hu : P.underlying t with
  | none => rw [hu] at hb; cases hb
  | some d =>
    rw [hu] at hb
    cases hp : partsA ts ps.toList with
    | none => cases d <;> rfl
    | some us =>
      cases d <;> first | (cases hb; done) | skip
      · rename_i n e
        obtain ⟨s, hs⟩ := Option.isSome_iff_exists.1 hb
        have : bplace P t = fun i => some (i * s, s) := by funext i; simp [bplace, hu, hs]
        simp only [bnd, this, hs]; rfl
      · rename_i fs
        have : bplace P t = fun i => match fs[i]? with | some f => (sizeA P f.type).map fun s => (f.offset, s) | none => none := by funext i; simp [bplace, hu]
        simp only [bnd, this, hb, if_true]; rfl
theorem op_indexAddr (t : TypeId) (x i : Operand) : opA P cmp call ⟨dst, .indexAddr t x i, ty, pos, after, gd⟩ ts h =
    bnd (constA x ts) fun a => bnd (constA i ts) fun b => indexAddrA P (P.underlying t) a b := by
  simp only [opA]
  cases hx : constA x ts with
  | none => cases P.underlying t with
    | none => rfl
    | some d => cases d <;> rfl
  | some a => cases hi : constA i ts with
    | none => cases P.underlying t with
      | none => rfl
      | some d => cases d <;> cases a <;> rfl
    | some b => cases hu : P.underlying t with
      | none => rfl
      | some d => cases d <;> cases a <;> cases b <;> rfl
theorem op_index (t : TypeId) (x i : Operand) : opA P cmp call ⟨dst, .index t x i, ty, pos, after, gd⟩ ts h =
    bnd (constA x ts) fun a => bnd (constA i ts) fun b => indexA P (P.underlying t) a b := by
  simp only [opA]
  cases hx : constA x ts with
  | none => cases P.underlying t with
    | none => rfl
    | some d => cases d <;> rfl
  | some a => cases hi : constA i ts with
    | none => cases P.underlying t with
      | none => rfl
      | some d => cases d <;> cases a <;> rfl
    | some b => cases hu : P.underlying t with
      | none => rfl
      | some d =>
        cases d <;> cases a <;> cases b <;> rfl
theorem op_slice (t : TypeId) (x : Operand) (lo hi mx : Option Operand) : opA P cmp call ⟨dst, .slice t x lo hi mx, ty, pos, after, gd⟩ ts h =
    bnd (constA x ts) fun a => bnd (optA ts lo) fun l => bnd (optA ts hi) fun u => bnd (optA ts mx) fun m => valO (sliceA P t a l u m) := by
  simp only [opA]
  cases constA x ts with
  | none => rfl
  | some a => cases optA ts lo with
    | none => rfl
    | some l => cases optA ts hi with
      | none => rfl
      | some u => cases optA ts mx with
        | none => rfl
        | some m => simp only [bnd]; cases sliceA P t a l u m <;> rfl
theorem op_buildSlice (t : TypeId) (n : Nat) (ps : Array (Nat × Operand)) (e s : Nat) (z : AVal) (he : elemA P t = some e) (hs : sizeA P e = some (s + 1)) (hz : zeroA P e = some z)
    (hn : (n * (s + 1) ≤ 65536 && z.cells.length == s + 1) = true) : opA P cmp call ⟨dst, .buildSlice t n ps, ty, pos, after, gd⟩ ts h =
    bnd (partsA ts ps.toList) fun us => bnd (fillA (fun i => some (i * (s + 1), s + 1)) (List.replicate n z.cells).flatten us) fun cs => bnd (elemsA (chop (s + 1) n cs)) fun es => some (.val (.slice es .full) .same) := by
  simp only [opA, he, hs, hz]
  cases partsA ts ps.toList with
  | none => rfl
  | some us =>
    simp only [bnd]
    rw [if_pos hn]
    cases fillA (fun i => some (i * (s + 1), s + 1)) (List.replicate n z.cells).flatten us with
    | none => rfl
    | some cs => simp only []; cases elemsA (chop (s + 1) n cs) <;> rfl
theorem op_makeFunc (f : FuncId) (a c : Array Operand) : opA P cmp call ⟨dst, .makeFunc (.func f) a c, ty, pos, after, gd⟩ ts h =
    bnd (argsA ts a.toList) fun u => bnd (argsA ts c.toList) fun v => some (.val (.func f u v) .same) := by
  simp only [opA]
  cases argsA ts a.toList with
  | none => rfl
  | some u => cases argsA ts c.toList <;> rfl
theorem op_extract (x : Operand) (i : Nat) : opA P cmp call ⟨dst, .extract x i, ty, pos, after, gd⟩ ts h =
    bnd (constA x ts) fun a => match a with | .tuple vs => valO vs[i]? | _ => none := by
  simp only [opA]
  cases constA x ts with
  | none => rfl
  | some a => cases a <;> rfl
theorem op_max (x y : Operand) (t t' : TypeId) : opA P cmp call ⟨dst, .call { callee := .builtin .max, args := #[x, y], argTypes := #[t, t'] }, ty, pos, after, gd⟩ ts h =
    bnd (constA x ts) fun a => bnd (constA y ts) fun b => valO (maxA [a, b]) := by
  simp only [opA, argsA]
  cases hc : constA x ts <;> cases hc' : constA y ts <;> simp only [bnd] <;> rfl
theorem op_min (x y : Operand) (t t' : TypeId) : opA P cmp call ⟨dst, .call { callee := .builtin .min, args := #[x, y], argTypes := #[t, t'] }, ty, pos, after, gd⟩ ts h =
    bnd (constA x ts) fun a => bnd (constA y ts) fun b => valO (minA [a, b]) := by
  simp only [opA, argsA]
  cases hc : constA x ts <;> cases hc' : constA y ts <;> simp only [bnd] <;> rfl
end
end Go.Ab
