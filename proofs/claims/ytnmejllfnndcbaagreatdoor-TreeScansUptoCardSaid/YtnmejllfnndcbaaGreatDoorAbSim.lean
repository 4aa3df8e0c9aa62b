/- Equations by which code is run on symbolic values. -/
import Derived.Test.YtnmejllfnndcbaaGreatDoorAbLim
set_option linter.unusedSimpArgs false
set_option linter.unusedVariables false
namespace Go.Ab
section
variable {P : Program} {cmp : List TypeId} {call : Call} {lp : Lp}
theorem sim_skip (s : St) : codeA P cmp call lp .skip s = some (.normal, s) := rfl
theorem sim_exit (id : Nat) (s : St) : codeA P cmp call lp (.exit id) s = some (.exit id, s) := rfl
theorem sim_ret (s : St) : codeA P cmp call lp .ret s = some (.ret, s) := rfl
theorem sim_region (id : Nat) (ops : Array Oper) (s : St) : codeA P cmp call lp (.region id ops false) s = opsA P cmp call ops.toList ops.toList s := rfl
def bindS (r : Option (AEx × St)) (k : St → Option (AEx × St)) : Option (AEx × St) := match r with
  | some (.normal, s') => k s'
  | r => r
def blockS (id : Nat) (r : Option (AEx × St)) : Option (AEx × St) := match r with
  | some (.exit j, s') => if j = id then some (.normal, s') else some (.exit j, s')
  | r => r
def condS (r : Option AVal) (a b : St → Option (AEx × St)) (s : St) : Option (AEx × St) := match r with
  | some (.bool true) => a s
  | some (.bool false) => b s
  | _ => none
theorem sim_seq (a b : Code) (s : St) : codeA P cmp call lp (.seq a b) s = bindS (codeA P cmp call lp a s) (codeA P cmp call lp b) := rfl
theorem sim_cond (c : Operand) (a b : Code) (s : St) : codeA P cmp call lp (.cond c a b) s = condS (constA c s.tmps) (codeA P cmp call lp a) (codeA P cmp call lp b) s := rfl
theorem sim_block (id : Nat) (b : Code) (s : St) : codeA P cmp call lp (.block id b) s = blockS id (codeA P cmp call lp b s) := rfl
theorem sim_loop (b : Code) (s : St) : codeA P cmp call lp (.loop b) s = lp (codeA P cmp call lp b) s := rfl
theorem bindS_normal (s : St) (k : St → Option (AEx × St)) : bindS (some (.normal, s)) k = k s := rfl
theorem bindS_ret (s : St) (k : St → Option (AEx × St)) : bindS (some (.ret, s)) k = some (.ret, s) := rfl
theorem bindS_exit (i : Nat) (s : St) (k : St → Option (AEx × St)) : bindS (some (.exit i, s)) k = some (.exit i, s) := rfl
theorem bindS_pan (v : AVal) (s : St) (k : St → Option (AEx × St)) : bindS (some (.pan v, s)) k = some (.pan v, s) := rfl
theorem blockS_normal (i : Nat) (s : St) : blockS i (some (.normal, s)) = some (.normal, s) := rfl
theorem blockS_ret (i : Nat) (s : St) : blockS i (some (.ret, s)) = some (.ret, s) := rfl
theorem blockS_exit (i : Nat) (s : St) : blockS i (some (.exit i, s)) = some (.normal, s) := by simp [blockS]
theorem blockS_exit' (i j : Nat) (s : St) (h : (j == i) = false) : blockS i (some (.exit j, s)) = some (.exit j, s) := by simp at h; simp [blockS, h]
theorem blockS_pan (i : Nat) (v : AVal) (s : St) : blockS i (some (.pan v, s)) = some (.pan v, s) := rfl
theorem condS_true (a b : St → Option (AEx × St)) (s : St) : condS (some (.bool true)) a b s = a s := rfl
theorem condS_false (a b : St → Option (AEx × St)) (s : St) : condS (some (.bool false)) a b s = b s := rfl

/-- One operation that is wanted. -/
def stepO (r : Option OR) (dst : Option Tmp) (s : St) (k : St → Option (AEx × St)) : Option (AEx × St) := match r with
  | some (.val v f) => k ⟨setT s.tmps dst v, f.of s.heap, f.dirt ++ s.dirty⟩
  | some (.pan v f) => some (.pan v, ⟨s.tmps, f.of s.heap, f.dirt ++ s.dirty⟩)
  | none => none
theorem ops_nil (ops : List Oper) (s : St) : opsA P cmp call ops [] s = some (.normal, s) := rfl
theorem ops_cons (ops : List Oper) (dst : Option Tmp) (op : Op) (t : TypeId) (pos : String) (after : Array Edge) (r : List Oper) (s : St) :
    opsA P cmp call ops ({ dst, op, type := t, pos, after, guard := none } :: r) s = stepO (opA P cmp call { dst, op, type := t, pos, after, guard := none } s.tmps s.heap) dst s (opsA P cmp call ops r) := by
  rw [opsA]; rfl
theorem stepO_val (v : AVal) (d : Tmp) (ts : List AVal) (h : AHeap) (dd : List Nat) (k : St → Option (AEx × St)) : stepO (some (.val v .same)) (some d) ⟨ts, h, dd⟩ k = k ⟨ts.set d v, h, dd⟩ := rfl
theorem stepO_val0 (v : AVal) (ts : List AVal) (h : AHeap) (dd : List Nat) (k : St → Option (AEx × St)) : stepO (some (.val v .same)) none ⟨ts, h, dd⟩ k = k ⟨ts, h, dd⟩ := rfl
theorem stepO_heap (v : AVal) (d : Tmp) (ts : List AVal) (h h' : AHeap) (dd d' : List Nat) (k : St → Option (AEx × St)) : stepO (some (.val v (.heap h' d'))) (some d) ⟨ts, h, dd⟩ k = k ⟨ts.set d v, h', d' ++ dd⟩ := rfl
theorem stepO_heap0 (v : AVal) (ts : List AVal) (h h' : AHeap) (dd d' : List Nat) (k : St → Option (AEx × St)) : stepO (some (.val v (.heap h' d'))) none ⟨ts, h, dd⟩ k = k ⟨ts, h', d' ++ dd⟩ := rfl
end

def valO (x : Option AVal) : Option OR := match x with | some a => some (.val a .same) | none => none
theorem valO_some (a : AVal) : valO (some a) = some (.val a .same) := rfl
def bnd {α β : Type} (x : Option α) (k : α → Option β) : Option β := match x with | some a => k a | none => none
theorem bnd_some {α β : Type} (a : α) (k : α → Option β) : bnd (some a) k = k a := rfl
theorem bnd_none {α β : Type} (k : α → Option β) : bnd none k = none := rfl
def retO (r : Option CR) : Option OR := match r with | some r => some (outOf r) | none => none
theorem retO_ret (v : AVal) (e : Eff) : retO (some (.ret v e)) = some (.val v e) := rfl

/-- Where a part of a struct or an array lies that is built. -/
def bplace (P : Program) (t : TypeId) (i : Nat) : Option (Nat × Nat) := match P.underlying t with
  | some (.struct fs) => (match fs[i]? with | some f => (sizeA P f.type).map fun s => (f.offset, s) | none => none)
  | some (.array _ e) => (match sizeA P e with | some s => some (i * s, s) | none => none)
  | _ => none
def bok (P : Program) (t : TypeId) : Bool := match P.underlying t with
  | some (.struct fs) => fs.all fun f => (P.info? f.type).isSome
  | some (.array _ e) => (sizeA P e).isSome
  | _ => false
def indexAddrA (P : Program) (u : Option TypeDesc) (a b : AVal) : Option OR := match u, a, b with
  | some (.slice e), .slice es _, .int _ n => (match es[n.toNat]?, sizeA P e with
      | some cs, some s => if 0 ≤ n && cs.length == s then some (.val (.eptr cs 0) .same) else none
      | _, _ => none)
  | some (.array len e), .ptr b o, .int _ n => (match sizeA P e with
      | some s => if 0 ≤ n && n < len then some (.val (.ptr b (o + n.toNat * s)) .same) else none
      | none => none)
  | _, _, _ => none
def indexA (P : Program) (u : Option TypeDesc) (a b : AVal) : Option OR := match u, a, b with
  | some .string, .str s, .int _ n => (match s[n.toNat]? with
      | some b => if 0 ≤ n then some (.val (.int .u8 b.toNat) .same) else none
      | none => none)
  | some (.array len e), .agg cs, .int _ n => (match sizeA P e with
      | some s => if 0 ≤ n && n < len then valO (partA P e cs (n.toNat * s)) else none
      | none => none)
  | _, _, _ => none
def lenA (u : Option TypeDesc) (a : AVal) : Option OR := match a, u with
  | .str s, some .string => if s.length ≤ strMax then some (.val (.int .i64 s.length) .same) else none
  | .slice es _, some (.slice _) => some (.val (.int .i64 es.length) .same)
  | _, _ => none
section
variable (P : Program) (cmp : List TypeId) (call : Call) (dst : Option Tmp) (ty : TypeId) (pos : String) (after : Array Edge) (gd : Option (Nat × Bool)) (ts : List AVal) (h : AHeap)
theorem op_move (x : Operand) : opA P cmp call ⟨dst, .move x, ty, pos, after, gd⟩ ts h = valO (constA x ts) := rfl
theorem op_assign (x : Operand) : opA P cmp call ⟨dst, .assign x, ty, pos, after, gd⟩ ts h = valO (constA x ts) := rfl
theorem op_alloc (t : TypeId) : opA P cmp call ⟨dst, .alloc t, ty, pos, after, gd⟩ ts h = bnd (zeroA P t) fun z => some (.val (.ptr h.length 0) (.heap (h ++ [.box z.cells]) [])) := by
  simp only [opA]; cases zeroA P t <;> rfl
theorem op_box (t : TypeId) (x : Operand) : opA P cmp call ⟨dst, .box t x, ty, pos, after, gd⟩ ts h = bnd (constA x ts) fun a => some (.val (.ptr h.length 0) (.heap (h ++ [.box a.cells]) [])) := by
  simp only [opA]; cases constA x ts <;> rfl
theorem op_load (t : TypeId) (x : Operand) : opA P cmp call ⟨dst, .load t x, ty, pos, after, gd⟩ ts h = bnd (constA x ts) fun a => valO (loadA P h t a) := by
  simp only [opA]
  cases hc : constA x ts with
  | none => rfl
  | some a => simp only [bnd]; cases loadA P h t a <;> rfl
theorem op_store (t : TypeId) (a x : Operand) : opA P cmp call ⟨dst, .store t a x, ty, pos, after, gd⟩ ts h =
    bnd (constA a ts) fun p => bnd (constA x ts) fun v => bnd (storeA P h t p v) fun q => some (.val .undef (.heap q.1 [q.2])) := by
  simp only [opA]
  cases ha : constA a ts with
  | none => rfl
  | some p => cases hx : constA x ts with
    | none => rfl
    | some v => simp only [bnd]; cases storeA P h t p v <;> rfl
theorem op_nilCheck (x : Operand) : opA P cmp call ⟨dst, .nilCheck x, ty, pos, after, gd⟩ ts h = bnd (constA x ts) fun a => match a with
    | .ptr b o => some (.val (.ptr b o) .same) | .eptr cs o => some (.val (.eptr cs o) .same) | .func f p q => some (.val (.func f p q) .same) | _ => none := by
  simp only [opA]
  cases hc : constA x ts with
  | none => rfl
  | some a => cases a <;> rfl
theorem op_binOp (op : BinOp) (t t2 : TypeId) (x y : Operand) : opA P cmp call ⟨dst, .binOp op t x y t2, ty, pos, after, gd⟩ ts h =
    bnd (constA x ts) fun a => bnd (constA y ts) fun b => valO (binA P cmp op t (isConst x || isConst y) a b) := by
  simp only [opA]
  cases ha : constA x ts with
  | none => rfl
  | some a => cases hy : constA y ts with
    | none => rfl
    | some b => simp only [bnd]; cases binA P cmp op t (isConst x || isConst y) a b <;> rfl
theorem op_unOp (op : UnOp) (t : TypeId) (x : Operand) : opA P cmp call ⟨dst, .unOp op t x, ty, pos, after, gd⟩ ts h = bnd (constA x ts) fun a => valO (unA op a) := by
  simp only [opA]
  cases hc : constA x ts with
  | none => rfl
  | some a => simp only [bnd]; cases unA op a <;> rfl
theorem op_convert (s d : TypeId) (x : Operand) : opA P cmp call ⟨dst, .convert s d x, ty, pos, after, gd⟩ ts h = bnd (constA x ts) fun a => valO (convA P s d a) := by
  simp only [opA]
  cases hc : constA x ts with
  | none => rfl
  | some a => simp only [bnd]; cases convA P s d a <;> rfl
theorem op_pick (c x y : Operand) : opA P cmp call ⟨dst, .pick c x y, ty, pos, after, gd⟩ ts h = bnd (constA c ts) fun b => match b with
    | .bool true => valO (constA x ts) | .bool false => valO (constA y ts) | _ => none := by
  simp only [opA]
  cases hc : constA c ts with
  | none => rfl
  | some a => cases a <;> try rfl
              rename_i b; cases b <;> rfl
theorem op_fieldAddr (t : TypeId) (x : Operand) (f : Nat) : opA P cmp call ⟨dst, .fieldAddr t x f, ty, pos, after, gd⟩ ts h =
    bnd (fieldPlaceA P t f) fun p => bnd (constA x ts) fun a => match a with
      | .ptr b o => some (.val (.ptr b (o + p.1)) .same) | .eptr cs o => some (.val (.eptr cs (o + p.1)) .same) | _ => none := by
  simp only [opA]
  cases hf : fieldPlaceA P t f with
  | none => rfl
  | some p =>
    obtain ⟨a, b⟩ := p
    cases hc : constA x ts with
    | none => rfl
    | some v => cases v <;> rfl
theorem op_field (t : TypeId) (x : Operand) (f : Nat) : opA P cmp call ⟨dst, .field t x f, ty, pos, after, gd⟩ ts h =
    bnd (fieldPlaceA P t f) fun p => bnd (constA x ts) fun a => match a with | .agg cs => valO (partA P p.2 cs p.1) | _ => none := by
  simp only [opA]
  cases hf : fieldPlaceA P t f with
  | none => rfl
  | some p =>
    obtain ⟨a, b⟩ := p
    cases hc : constA x ts with
    | none => rfl
    | some v => cases v <;> rfl
theorem op_callF (f : FuncId) (args : Array Operand) (ats : Array TypeId) : opA P cmp call ⟨dst, .call { callee := .value (.func f), args, argTypes := ats }, ty, pos, after, gd⟩ ts h =
    bnd (argsA ts args.toList) fun as => retO (callA call h f (as.map argA)) := by
  simp only [opA, constA]
  cases argsA ts args.toList with
  | none => rfl
  | some as => simp only [List.nil_append, List.append_nil]; rfl
theorem op_callV (t : Tmp) (args : Array Operand) (ats : Array TypeId) : opA P cmp call ⟨dst, .call { callee := .value (.tmp t), args, argTypes := ats }, ty, pos, after, gd⟩ ts h =
    bnd (ts[t]?) fun f => bnd (argsA ts args.toList) fun as => match f with | .func g first cap => retO (callA call h g (first ++ as.map argA ++ cap)) | _ => none := by
  simp only [opA, constA]
  cases hc : ts[t]? with
  | none => rfl
  | some v =>
    cases argsA ts args.toList with
    | none => cases v <;> rfl
    | some as => cases v <;> rfl
theorem op_len (x : Operand) (t : TypeId) : opA P cmp call ⟨dst, .call { callee := .builtin .len, args := #[x], argTypes := #[t] }, ty, pos, after, gd⟩ ts h =
    bnd (constA x ts) fun a => lenA (P.underlying t) a := by
  simp only [opA, argsA]
  have h0 : (#[t] : Array TypeId)[0]? = some t := rfl
  simp only [h0]
  cases hc : constA x ts with
  | none => rfl
  | some v =>
    simp only [bnd]
    cases hu : P.underlying t with
    | none => cases v <;> rfl
    | some d => cases d <;> cases v <;> rfl
theorem op_append (x y : Operand) (t : TypeId) : opA P cmp call ⟨dst, .call { callee := .builtin .append, args := #[x, y], argTypes := #[t, t] }, ty, pos, after, gd⟩ ts h =
    bnd (constA x ts) fun a => bnd (constA y ts) fun b => bnd (appendA P h t a b) fun q => some (.val q.1 q.2) := by
  simp only [opA, argsA]
  have h0 : (#[t, t] : Array TypeId)[0]? = some t := rfl
  have h1 : (#[t, t] : Array TypeId)[1]? = some t := rfl
  simp only [h0, h1]
  cases hc : constA x ts with
  | none => rfl
  | some a => cases hy : constA y ts with
    | none => rfl
    | some b =>
      simp only [bnd]
      cases ha : appendA P h t a b with
      | none => rfl
      | some q => simp
theorem op_build (t : TypeId) (ps : Array (Nat × Operand)) (z : List AVal) (hz : zeroA P t = some (.agg z)) (hb : bok P t = true) : opA P cmp call ⟨dst, .build t ps, ty, pos, after, gd⟩ ts h =
    bnd (partsA ts ps.toList) fun us => valO ((fillA (bplace P t) z us).map .agg) := by
  simp only [opA, hz]
  unfold bok at hb
  cases hu : P.underlying t with
  | none => rw [hu] at hb; cases hb
  | some d =>
    rw [hu] at hb
    cases hp : partsA ts ps.toList with
    | none => cases d <;> rfl
    | some us =>
      cases d <;> first | (cases hb; done) | skip
      · rename_i n e
        obtain ⟨s, hs⟩ := Option.isSome_iff_exists.1 hb
        have : bplace P t = fun i => some (i * s, s) := by funext i; simp [bplace, hu, hs]
        simp only [bnd, this, hs]; rfl
      · rename_i fs
        have : bplace P t = fun i => match fs[i]? with | some f => (sizeA P f.type).map fun s => (f.offset, s) | none => none := by funext i; simp [bplace, hu]
        simp only [bnd, this, hb, if_true]; rfl
theorem op_indexAddr (t : TypeId) (x i : Operand) : opA P cmp call ⟨dst, .indexAddr t x i, ty, pos, after, gd⟩ ts h =
    bnd (constA x ts) fun a => bnd (constA i ts) fun b => indexAddrA P (P.underlying t) a b := by
  simp only [opA]
  cases hx : constA x ts with
  | none => cases P.underlying t with
    | none => rfl
    | some d => cases d <;> rfl
  | some a => cases hi : constA i ts with
    | none => cases P.underlying t with
      | none => rfl
      | some d => cases d <;> cases a <;> rfl
    | some b => cases hu : P.underlying t with
      | none => rfl
      | some d => cases d <;> cases a <;> cases b <;> rfl
theorem op_index (t : TypeId) (x i : Operand) : opA P cmp call ⟨dst, .index t x i, ty, pos, after, gd⟩ ts h =
    bnd (constA x ts) fun a => bnd (constA i ts) fun b => indexA P (P.underlying t) a b := by
  simp only [opA]
  cases hx : constA x ts with
  | none => cases P.underlying t with
    | none => rfl
    | some d => cases d <;> rfl
  | some a => cases hi : constA i ts with
    | none => cases P.underlying t with
      | none => rfl
      | some d => cases d <;> cases a <;> rfl
    | some b => cases hu : P.underlying t with
      | none => rfl
      | some d =>
        cases d <;> cases a <;> cases b <;> rfl
theorem op_slice (t : TypeId) (x : Operand) (lo hi mx : Option Operand) : opA P cmp call ⟨dst, .slice t x lo hi mx, ty, pos, after, gd⟩ ts h =
    bnd (constA x ts) fun a => bnd (optA ts lo) fun l => bnd (optA ts hi) fun u => bnd (optA ts mx) fun m => valO (sliceA P t a l u m) := by
  simp only [opA]
  cases constA x ts with
  | none => rfl
  | some a => cases optA ts lo with
    | none => rfl
    | some l => cases optA ts hi with
      | none => rfl
      | some u => cases optA ts mx with
        | none => rfl
        | some m => simp only [bnd]; cases sliceA P t a l u m <;> rfl
theorem op_buildSlice (t : TypeId) (n : Nat) (ps : Array (Nat × Operand)) (e s : Nat) (z : AVal) (he : elemA P t = some e) (hs : sizeA P e = some (s + 1)) (hz : zeroA P e = some z)
    (hn : (n * (s + 1) ≤ 65536 && z.cells.length == s + 1) = true) : opA P cmp call ⟨dst, .buildSlice t n ps, ty, pos, after, gd⟩ ts h =
    bnd (partsA ts ps.toList) fun us => bnd (fillA (fun i => some (i * (s + 1), s + 1)) (List.replicate n z.cells).flatten us) fun cs => bnd (elemsA (chop (s + 1) n cs)) fun es => some (.val (.slice es .full) .same) := by
  simp only [opA, he, hs, hz]
  cases partsA ts ps.toList with
  | none => rfl
  | some us =>
    simp only [bnd]
    rw [if_pos hn]
    cases fillA (fun i => some (i * (s + 1), s + 1)) (List.replicate n z.cells).flatten us with
    | none => rfl
    | some cs => simp only []; cases elemsA (chop (s + 1) n cs) <;> rfl
theorem op_makeFunc (f : FuncId) (a c : Array Operand) : opA P cmp call ⟨dst, .makeFunc (.func f) a c, ty, pos, after, gd⟩ ts h =
    bnd (argsA ts a.toList) fun u => bnd (argsA ts c.toList) fun v => some (.val (.func f u v) .same) := by
  simp only [opA]
  cases argsA ts a.toList with
  | none => rfl
  | some u => cases argsA ts c.toList <;> rfl
theorem op_extract (x : Operand) (i : Nat) : opA P cmp call ⟨dst, .extract x i, ty, pos, after, gd⟩ ts h =
    bnd (constA x ts) fun a => match a with | .tuple vs => valO vs[i]? | _ => none := by
  simp only [opA]
  cases constA x ts with
  | none => rfl
  | some a => cases a <;> rfl
theorem op_max (x y : Operand) (t t' : TypeId) : opA P cmp call ⟨dst, .call { callee := .builtin .max, args := #[x, y], argTypes := #[t, t'] }, ty, pos, after, gd⟩ ts h =
    bnd (constA x ts) fun a => bnd (constA y ts) fun b => valO (maxA [a, b]) := by
  simp only [opA, argsA]
  cases hc : constA x ts <;> cases hc' : constA y ts <;> simp only [bnd] <;> rfl
theorem op_min (x y : Operand) (t t' : TypeId) : opA P cmp call ⟨dst, .call { callee := .builtin .min, args := #[x, y], argTypes := #[t, t'] }, ty, pos, after, gd⟩ ts h =
    bnd (constA x ts) fun a => bnd (constA y ts) fun b => valO (minA [a, b]) := by
  simp only [opA, argsA]
  cases hc : constA x ts <;> cases hc' : constA y ts <;> simp only [bnd] <;> rfl
end
end Go.Ab
/- Loops, and what a call without pointers leaves. -/
namespace Go.Ab
/-- A loop that counts from i to n: a round turns the state by 'step'. -/
theorem lpC_fold {A : Type} {f : St → Option (AEx × St)} {n : Nat} {Inv : Nat → A → St → Prop} {step : Nat → A → A} {ex : AEx} {Out : A → St → Prop} (hex : ∀ s s' : St, (ex, s) ≠ (AEx.normal, s'))
    (hs : ∀ i a s, i < n → Inv i a s → ∃ s', f s = some (.normal, s') ∧ Inv (i + 1) (step i a) s')
    (he : ∀ a s, Inv n a s → ∃ s', f s = some (ex, s') ∧ Out a s') :
    ∀ (d i : Nat) (a : A) (s : St), i + d = n → Inv i a s → ∃ s', lpC f s = some (ex, s') ∧ Out ((List.range' i d).foldl (fun x j => step j x) a) s'
  | 0, i, a, s, hd, hi => by
    have : i = n := by omega
    subst this
    obtain ⟨s', h1, h2⟩ := he a s hi
    refine ⟨s', ?_, h2⟩
    rw [lpC_eq, h1]
    split
    · rename_i s2 hh
      simp only [Option.some.injEq] at hh
      exact absurd hh (hex s' s2)
    · rfl
  | d + 1, i, a, s, hd, hi => by
    obtain ⟨s1, h1, h2⟩ := hs i a s (by omega) hi
    obtain ⟨s', h3, h4⟩ := lpC_fold hex hs he d (i + 1) (step i a) s1 (by omega) h2
    refine ⟨s', ?_, by simpa [List.range'_succ] using h4⟩
    rw [lpC_eq, h1]
    exact h3
/-- A loop over a list. -/
theorem lpC_list {α A : Type} {f : St → Option (AEx × St)} (l : List α) {Inv : Nat → A → St → Prop} {step : A → α → A} {ex : AEx} {Out : A → St → Prop} (hex : ∀ s s' : St, (ex, s) ≠ (AEx.normal, s'))
    (hs : ∀ i x a s, l[i]? = some x → Inv i a s → ∃ s', f s = some (.normal, s') ∧ Inv (i + 1) (step a x) s')
    (he : ∀ a s, Inv l.length a s → ∃ s', f s = some (ex, s') ∧ Out a s') :
    ∀ (r : List α) (i : Nat) (a : A) (s : St), l.drop i = r → i ≤ l.length → Inv i a s → ∃ s', lpC f s = some (ex, s') ∧ Out (r.foldl step a) s'
  | [], i, a, s, hd, hl, hi => by
    have : i = l.length := by have := congrArg List.length hd; simp at this; omega
    subst this
    obtain ⟨s', h1, h2⟩ := he a s hi
    refine ⟨s', ?_, h2⟩
    rw [lpC_eq, h1]
    split
    · rename_i s2 hh
      simp only [Option.some.injEq] at hh
      exact absurd hh (hex s' s2)
    · rfl
  | x :: r, i, a, s, hd, hl, hi => by
    have hx : l[i]? = some x := by
      have := congrArg (fun q => q[0]?) hd
      simpa using this
    have hlt := (List.getElem?_eq_some_iff.1 hx).1
    obtain ⟨s1, h1, h2⟩ := hs i x a s hx hi
    obtain ⟨s', h3, h4⟩ := lpC_list l hex hs he r (i + 1) (step a x) s1 (by rw [← List.drop_drop, hd]; rfl) (by omega) h2
    refine ⟨s', ?_, h4⟩
    rw [lpC_eq, h1]
    exact h3

theorem heap_last (h : AHeap) (b : Blk) : (h ++ [b])[h.length]? = some b := by simp
theorem heap_old (h : AHeap) (b : Blk) {i : Nat} {x : Blk} (hx : h[i]? = some x) : (h ++ [b])[i]? = some x := by
  rw [List.getElem?_append_left (List.getElem?_eq_some_iff.1 hx).1]; exact hx
theorem set_last (h : AHeap) (b x : Blk) : (h ++ [b]).set h.length x = h ++ [x] := by simp

theorem leave_pure (v : AVal) (h : AHeap) (d : List Nat) (hr : refs (strip3 v) = []) : leaveA 0 v h d = (strip3 v, .same) := by
  have hd : d.filter (· < 0) = [] := by simp
  unfold leaveA
  simp only [hd, dedup]
  rw [if_pos (by unfold lowA; rw [hr]; rfl)]

/-- A call without pointers. -/
theorem callA_pure {call : Call} {g : FuncId} {args : List AVal} {v : AVal} (h : AHeap) (ha : refsL args = []) (hv : refs v = []) (e : call g args [] = some (.ret v .same)) :
    callA call h g args = some (.ret v .same) := by
  unfold callA
  simp only [ha]
  have h1 : reach h 256 [] [] = [] := rfl
  simp only [h1]
  have h2 : subOk h [] args = true := by unfold subOk; rw [ha]; rfl
  rw [if_pos h2]
  have h3 : renL (fun x => List.idxOf x []) args = args := renL_same args (by rw [ha]; simp)
  rw [h3]
  have h4 : subH h [] = [] := rfl
  rw [h4, e]
  simp only [backE]
  rw [ren_same v (by rw [hv]; simp)]
end Go.Ab
/- The project's types, and how their values lie in the evaluator. -/
namespace Go.Ab
abbrev Str := List UInt8
inductive PExpr where
  | mk (op : Int) (name : Str) (n : Int) (cons : List Str) (kids : List PExpr)
def PExpr.op : PExpr → Int | .mk op _ _ _ _ => op
def PExpr.name : PExpr → Str | .mk _ name _ _ _ => name
def PExpr.n : PExpr → Int | .mk _ _ n _ _ => n
def PExpr.cons : PExpr → List Str | .mk _ _ _ cons _ => cons
def PExpr.kids : PExpr → List PExpr | .mk _ _ _ _ kids => kids
def encStrs (l : List Str) : AVal := .slice (l.map fun s => [.str s]) .free
mutual
def PExpr.cells : PExpr → List AVal
  | .mk op name n cons kids => [.int .i64 op, .str name, .int .i64 n, encStrs cons, .slice (PExpr.cellsL kids) .free]
def PExpr.cellsL : List PExpr → List (List AVal)
  | [] => []
  | e :: r => e.cells :: PExpr.cellsL r
end
theorem cellsL_map (l : List PExpr) : PExpr.cellsL l = l.map PExpr.cells := by
  induction l with
  | nil => rfl
  | cons e r ih => simp [PExpr.cellsL, ih]
theorem PExpr.cells_eq (e : PExpr) : e.cells = [.int .i64 e.op, .str e.name, .int .i64 e.n, encStrs e.cons, .slice (e.kids.map PExpr.cells) .free] := by
  cases e; simp [PExpr.cells, PExpr.op, PExpr.name, PExpr.n, PExpr.cons, PExpr.kids, cellsL_map]

/-- What is asked of the cells of a struct. -/
structure CellsOk (n : Nat) (cs : List AVal) : Prop where
  len : cs.length = n
  refs : refsL cs = []
  strip : cs.map strip0 = cs
  one : cs.all oneA = true
  pure : cs.all pureA = true

theorem CellsOk.arg {n : Nat} {cs : List AVal} (h : CellsOk n cs) : argA (.agg cs) = .agg cs := by simp only [argA, h.strip]
theorem CellsOk.elem {n : Nat} {cs : List AVal} (h : CellsOk n cs) : elemCells cs = some cs := by
  unfold elemCells; simp only [h.strip, h.pure, if_true]
theorem CellsOk.strip3 {n : Nat} {cs : List AVal} (h : CellsOk n cs) : strip3 (.agg cs) = .agg cs := by simp only [Go.Ab.strip3, Go.Ab.strip2, h.strip]
theorem partA_whole {P : Program} {t n : Nat} {cs : List AVal} (ha : aggA P t = some true) (hs : sizeA P t = some n) (h : CellsOk n cs) : partA P t cs 0 = some (.agg cs) := by
  unfold partA
  simp only [ha, hs, List.drop_zero]
  rw [List.take_of_length_le (by rw [h.len]; exact Nat.le_refl _), if_pos h.len]
theorem setCells_all {vs cs : List AVal} (h : vs.length = cs.length) : setCells cs 0 vs = some vs := by
  cases cs with
  | nil => cases vs with
    | nil => rfl
    | cons => simp at h
  | cons c cs =>
    simp only [setCells]
    rw [if_pos (by omega), h, List.drop_length, List.append_nil]
theorem CellsOk.append {n m : Nat} {a b : List AVal} (h : CellsOk n a) (k : CellsOk m b) : CellsOk (n + m) (a ++ b) := by
  refine ⟨by simp [h.len, k.len], ?_, by simp [h.strip, k.strip], by simp [h.one, k.one], by simp [h.pure, k.pure]⟩
  have : ∀ l r : List AVal, refsL (l ++ r) = refsL l ++ refsL r := by
    intro l r
    induction l with
    | nil => rfl
    | cons x l ih => simp [refsL, ih]
  rw [this, h.refs, k.refs]; rfl

theorem PExpr.ok (e : PExpr) : CellsOk 5 e.cells := by
  rw [e.cells_eq]
  exact ⟨rfl, rfl, rfl, rfl, rfl⟩
theorem refs_agg {n : Nat} {cs : List AVal} (h : CellsOk n cs) : refs (.agg cs) = [] := by simp only [refs, h.refs]
end Go.Ab
/- A loop by what it stands for. -/
namespace Go.Ab
theorem lpC_den {α R : Type} {f : St → Option (AEx × St)} (μ : α → Nat) (den : α → R) (Inv : α → St → Prop) (Post : R → AEx → St → Prop)
    (hs : ∀ a s, Inv a s → (∃ a' s', f s = some (.normal, s') ∧ Inv a' s' ∧ μ a' < μ a ∧ den a' = den a) ∨ (∃ ex s', f s = some (ex, s') ∧ (∀ s1 : St, (ex, s') ≠ (AEx.normal, s1)) ∧ Post (den a) ex s')) :
    ∀ (n : Nat) (a : α) (s : St), μ a ≤ n → Inv a s → ∃ ex s', lpC f s = some (ex, s') ∧ Post (den a) ex s' := by
  intro n
  induction n with
  | zero =>
    intro a s hn hi
    rcases hs a s hi with ⟨a', s', _, _, h, _⟩ | ⟨ex, s', h1, hx, h2⟩
    · omega
    · refine ⟨ex, s', ?_, h2⟩
      rw [lpC_eq, h1]
      split
      · rename_i s2 hh
        simp only [Option.some.injEq] at hh
        exact absurd hh (hx s2)
      · rfl
  | succ n ih =>
    intro a s hn hi
    rcases hs a s hi with ⟨a', s1, h1, hi1, hm, hd⟩ | ⟨ex, s', h1, hx, h2⟩
    · obtain ⟨ex, s', h3, h4⟩ := ih a' s1 (by omega) hi1
      refine ⟨ex, s', ?_, hd ▸ h4⟩
      rw [lpC_eq, h1]; exact h3
    · refine ⟨ex, s', ?_, h2⟩
      rw [lpC_eq, h1]
      split
      · rename_i s2 hh
        simp only [Option.some.injEq] at hh
        exact absurd hh (hx s2)
      · rfl
def upd : List (Nat × AVal) → List AVal → List AVal
  | [], ts => ts
  | (k, v) :: r, ts => (upd r ts).set k v
theorem upd_nil (ts : List AVal) : upd [] ts = ts := rfl
theorem upd_cons (k : Nat) (v : AVal) (r : List (Nat × AVal)) (ts : List AVal) : upd ((k, v) :: r) ts = (upd r ts).set k v := rfl
/-- At a loop's head: the slots as they were ahead of it but for those of w and the junk; behind the old blocks new ones. -/
def At (junk : List Nat) (ts0 : List AVal) (H0 : AHeap) (w : List (Nat × AVal)) (s : St) : Prop :=
  s = ⟨upd (w ++ junk.map fun k => (k, s.tmps.getD k .undef)) ts0, H0 ++ s.heap.drop H0.length, s.dirty⟩
theorem At.elim {junk : List Nat} {ts0 : List AVal} {H0 : AHeap} {w : List (Nat × AVal)} {s : St} (h : At junk ts0 H0 w s) :
    ∃ (j : Nat → AVal) (H : AHeap) (d : List Nat), s = ⟨upd (w ++ junk.map fun k => (k, j k)) ts0, H0 ++ H, d⟩ := ⟨_, _, _, h⟩
/-- What a round of a loop does. -/
def Round {α R : Type} (junk : List Nat) (ts0 : List AVal) (H0 : AHeap) (w : α → List (Nat × AVal)) (I : α → Prop) (μ : α → Nat) (den : α → R) (Post : R → AEx → St → Prop) (a : α) (r : Option (AEx × St)) : Prop :=
  (∃ a' s', r = some (.normal, s') ∧ I a' ∧ At junk ts0 H0 (w a') s' ∧ μ a' < μ a ∧ den a' = den a) ∨
  (∃ ex s', r = some (ex, s') ∧ (∀ s1 : St, (ex, s') ≠ (AEx.normal, s1)) ∧ Post (den a) ex s')
theorem lpC_at {α R : Type} {f : St → Option (AEx × St)} {ts0 : List AVal} {H0 : AHeap} {d0 : List Nat} {r : Option (AEx × St)} (hl : lpC f ⟨ts0, H0, d0⟩ = r)
    (junk : List Nat) (w : α → List (Nat × AVal)) (I : α → Prop) (μ : α → Nat) (den : α → R) (Post : List AVal → AHeap → R → AEx → St → Prop) (a0 : α) (h0 : I a0)
    (hw : At junk ts0 H0 (w a0) ⟨ts0, H0, d0⟩)
    (hs : ∀ a (j : Nat → AVal) H d, I a → Round junk ts0 H0 w I μ den (Post ts0 H0) a (f ⟨upd (w a ++ junk.map fun k => (k, j k)) ts0, H0 ++ H, d⟩)) :
    ∃ ex s', r = some (ex, s') ∧ Post ts0 H0 (den a0) ex s' := by
  subst hl
  refine lpC_den μ den (fun a s => I a ∧ At junk ts0 H0 (w a) s) (Post ts0 H0) ?_ (μ a0) a0 _ (Nat.le_refl _) ⟨h0, hw⟩
  rintro a s ⟨hi, ha⟩
  obtain ⟨j, H, d, rfl⟩ := ha.elim
  rcases hs a j H d hi with ⟨a', s', h1, h2, h3, h4, h5⟩ | h
  · exact .inl ⟨a', s', h1, ⟨h2, h3⟩, h4, h5⟩
  · exact .inr h
theorem leaveA_pure (v : AVal) (h : AHeap) (d : List Nat) (hr : refs (strip3 v) = []) : leaveA 0 v h d = (strip3 v, .same) := leave_pure v h d hr
theorem PExpr.len (e : PExpr) : e.cells.length = 5 := e.ok.len
theorem PExpr.ones (e : PExpr) : e.cells.all oneA = true := e.ok.one
theorem PExpr.arg (e : PExpr) : argA (.agg e.cells) = .agg e.cells := e.ok.arg
theorem PExpr.strip (e : PExpr) : e.cells.map strip0 = e.cells := e.ok.strip
theorem PExpr.norefs (e : PExpr) : refsL e.cells = [] := e.ok.refs
theorem PExpr.get0 (e : PExpr) : e.cells[0]? = some (.int .i64 e.op) := by rw [e.cells_eq]; rfl
theorem PExpr.get1 (e : PExpr) : e.cells[1]? = some (.str e.name) := by rw [e.cells_eq]; rfl
theorem PExpr.get2 (e : PExpr) : e.cells[2]? = some (.int .i64 e.n) := by rw [e.cells_eq]; rfl
theorem PExpr.get3 (e : PExpr) : e.cells[3]? = some (encStrs e.cons) := by rw [e.cells_eq]; rfl
theorem PExpr.get4 (e : PExpr) : e.cells[4]? = some (.slice (e.kids.map PExpr.cells) .free) := by rw [e.cells_eq]; rfl
theorem PExpr.take (e : PExpr) : List.take 5 e.cells = e.cells := by rw [List.take_of_length_le]; rw [e.len]; exact Nat.le_refl _
theorem PExpr.set4 (e : PExpr) (v : AVal) : setCells e.cells 4 [v] = some [.int .i64 e.op, .str e.name, .int .i64 e.n, encStrs e.cons, v] := by rw [e.cells_eq]; rfl
theorem PExpr.set0 (e : PExpr) (cs : List AVal) (h : cs.length = 5) : setCells cs 0 e.cells = some e.cells := setCells_all (by rw [e.len, h])
theorem arg_encStrs (l : List Str) : argA (encStrs l) = encStrs l := rfl
theorem cells_encStrs (l : List Str) : (encStrs l).cells = [encStrs l] := rfl
theorem one_encStrs (l : List Str) : oneA (encStrs l) = true := rfl
theorem pure_encStrs (l : List Str) : pureA (encStrs l) = true := rfl
theorem refs_encStrs (l : List Str) : refs (encStrs l) = [] := rfl
theorem strip3_encStrs (l : List Str) : strip3 (encStrs l) = encStrs l := rfl
theorem strip_encStrs (l : List Str) : strip0 (encStrs l) = encStrs l := rfl
theorem PExpr.takeA (e : PExpr) (r : List AVal) : List.take 5 (e.cells ++ r) = e.cells := by rw [← e.len, List.take_left]
theorem PExpr.dropA (e : PExpr) (r : List AVal) : List.drop 5 (e.cells ++ r) = r := by rw [← e.len, List.drop_left]
theorem PExpr.drop (e : PExpr) : List.drop 5 e.cells = [] := by rw [← e.len, List.drop_length]
theorem PExpr.pures (e : PExpr) : e.cells.all pureA = true := e.ok.pure
theorem PExpr.eta (e : PExpr) : e = .mk e.op e.name e.n e.cons e.kids := by cases e; rfl
theorem PExpr.induct {p : PExpr → Prop} (h : ∀ op name n cons kids, (∀ k ∈ kids, p k) → p (.mk op name n cons kids)) (e : PExpr) : p e := by
  refine PExpr.rec (motive_1 := p) (motive_2 := fun l => ∀ k ∈ l, p k) ?_ ?_ ?_ e
  · intro op name n cons kids ih; exact h op name n cons kids ih
  · intro k hk; cases hk
  · intro a r ha hr k hk
    rcases List.mem_cons.1 hk with rfl | hk
    · exact ha
    · exact hr k hk
def lenTop : Nat := 1099511627776
def StrsSmall (l : List Str) : Prop := l.length ≤ lenTop ∧ ∀ s ∈ l, s.length ≤ lenTop
inductive PExpr.Small : PExpr → Prop where
  | mk (op : Int) (name : Str) (n : Int) (cons : List Str) (kids : List PExpr) : name.length ≤ lenTop → StrsSmall cons → kids.length ≤ lenTop → (∀ k ∈ kids, k.Small) → PExpr.Small (.mk op name n cons kids)
theorem PExpr.Small.kids {e : PExpr} (h : e.Small) : e.kids.length ≤ lenTop ∧ ∀ k ∈ e.kids, k.Small := by cases h; exact ⟨‹_›, ‹_›⟩
theorem PExpr.Small.name {e : PExpr} (h : e.Small) : e.name.length ≤ lenTop := by cases h; assumption
theorem PExpr.Small.cons {e : PExpr} (h : e.Small) : StrsSmall e.cons := by cases h; assumption
theorem wrap_small {n : Int} (h1 : -9223372036854775808 ≤ n) (h2 : n ≤ 9223372036854775807) : wrapF .i64 n = n := by
  unfold wrapF; simp [h1, h2]
theorem wrap_nat {n : Nat} (h : n ≤ lenTop) : wrapF .i64 ((n : Int) + 1) = ((n + 1 : Nat) : Int) := by
  rw [wrap_small (by omega) (by unfold lenTop at h; omega)]; rfl
def wadd (a b : Int) : Int := wrapF .i64 (a + b)
/-- Contracts of functions that neither take nor give pointers. -/
def Ret (c : Call) (f : FuncId) (args : List AVal) (v : AVal) : Prop := ∀ h, callA c h f args = some (.ret v .same)
theorem Ret.mk {c : Call} {f : FuncId} {args : List AVal} {v : AVal} (ha : refsL args = []) (hv : refs v = []) (e : c f args [] = some (.ret v .same)) : Ret c f args v := fun h => callA_pure h ha hv e
end Go.Ab
