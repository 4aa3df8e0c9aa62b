/- A loop by what it stands for. -/
import Derived.Test.YtnmejllfnndcbaaGreatDoorAbEnc
namespace Go.Ab
theorem lpC_den {α R : Type} {f : St → Option (AEx × St)} (μ : α → Nat) (den : α → R) (Inv : α → St → Prop) (Post : R → AEx → St → Prop)
    (hs : ∀ a s, Inv a s → (∃ a' s', f s = some (.normal, s') ∧ Inv a' s' ∧ μ a' < μ a ∧ den a' = den a) ∨ (∃ ex s', f s = some (ex, s') ∧ (∀ s1 : St, (ex, s') ≠ (AEx.normal, s1)) ∧ Post (den a) ex s')) :
    ∀ (n : Nat) (a : α) (s : St), μ a ≤ n → Inv a s → ∃ ex s', lpC f s = some (ex, s') ∧ Post (den a) ex s' := by
  intro n
  induction n with
  | zero =>
    intro a s hn hi
    rcases hs a s hi with ⟨a', s', _, _, h, _⟩ | ⟨ex, s', h1, hx, h2⟩
    · omega
    · refine ⟨ex, s', ?_, h2⟩
      rw [lpC_eq, h1]
      split
      · rename_i s2 hh
        simp only [Option.some.injEq] at hh
        exact absurd hh (hx s2)
      · rfl
  | succ n ih =>
    intro a s hn hi
    rcases hs a s hi with ⟨a', s1, h1, hi1, hm, hd⟩ | ⟨ex, s', h1, hx, h2⟩
    · obtain ⟨ex, s', h3, h4⟩ := ih a' s1 (by omega) hi1
      refine ⟨ex, s', ?_, hd ▸ h4⟩
      rw [lpC_eq, h1]; exact h3
    · refine ⟨ex, s', ?_, h2⟩
      rw [lpC_eq, h1]
      split
      · rename_i s2 hh
        simp only [Option.some.injEq] at hh
        exact absurd hh (hx s2)
      · rfl
def upd : List (Nat × AVal) → List AVal → List AVal
  | [], ts => ts
  | (k, v) :: r, ts => (upd r ts).set k v
theorem upd_nil (ts : List AVal) : upd [] ts = ts := rfl
theorem upd_cons (k : Nat) (v : AVal) (r : List (Nat × AVal)) (ts : List AVal) : upd ((k, v) :: r) ts = (upd r ts).set k v := rfl
/-- At a loop's head: the slots as they were ahead of it but for those of w and the junk; behind the old blocks new ones. -/
def At (junk : List Nat) (ts0 : List AVal) (H0 : AHeap) (w : List (Nat × AVal)) (s : St) : Prop :=
  s = ⟨upd (w ++ junk.map fun k => (k, s.tmps.getD k .undef)) ts0, H0 ++ s.heap.drop H0.length, s.dirty⟩
theorem At.elim {junk : List Nat} {ts0 : List AVal} {H0 : AHeap} {w : List (Nat × AVal)} {s : St} (h : At junk ts0 H0 w s) :
    ∃ (j : Nat → AVal) (H : AHeap) (d : List Nat), s = ⟨upd (w ++ junk.map fun k => (k, j k)) ts0, H0 ++ H, d⟩ := ⟨_, _, _, h⟩
/-- What a round of a loop does. -/
def Round {α R : Type} (junk : List Nat) (ts0 : List AVal) (H0 : AHeap) (w : α → List (Nat × AVal)) (I : α → Prop) (μ : α → Nat) (den : α → R) (Post : R → AEx → St → Prop) (a : α) (r : Option (AEx × St)) : Prop :=
  (∃ a' s', r = some (.normal, s') ∧ I a' ∧ At junk ts0 H0 (w a') s' ∧ μ a' < μ a ∧ den a' = den a) ∨
  (∃ ex s', r = some (ex, s') ∧ (∀ s1 : St, (ex, s') ≠ (AEx.normal, s1)) ∧ Post (den a) ex s')
theorem lpC_at {α R : Type} {f : St → Option (AEx × St)} {ts0 : List AVal} {H0 : AHeap} {d0 : List Nat} {r : Option (AEx × St)} (hl : lpC f ⟨ts0, H0, d0⟩ = r)
    (junk : List Nat) (w : α → List (Nat × AVal)) (I : α → Prop) (μ : α → Nat) (den : α → R) (Post : List AVal → AHeap → R → AEx → St → Prop) (a0 : α) (h0 : I a0)
    (hw : At junk ts0 H0 (w a0) ⟨ts0, H0, d0⟩)
    (hs : ∀ a (j : Nat → AVal) H d, I a → Round junk ts0 H0 w I μ den (Post ts0 H0) a (f ⟨upd (w a ++ junk.map fun k => (k, j k)) ts0, H0 ++ H, d⟩)) :
    ∃ ex s', r = some (ex, s') ∧ Post ts0 H0 (den a0) ex s' := by
  subst hl
  refine lpC_den μ den (fun a s => I a ∧ At junk ts0 H0 (w a) s) (Post ts0 H0) ?_ (μ a0) a0 _ (Nat.le_refl _) ⟨h0, hw⟩
  rintro a s ⟨hi, ha⟩
  obtain ⟨j, H, d, rfl⟩ := ha.elim
  rcases hs a j H d hi with ⟨a', s', h1, h2, h3, h4, h5⟩ | h
  · exact .inl ⟨a', s', h1, ⟨h2, h3⟩, h4, h5⟩
  · exact .inr h
theorem leaveA_pure (v : AVal) (h : AHeap) (d : List Nat) (hr : refs (strip3 v) = []) : leaveA 0 v h d = (strip3 v, .same) := leave_pure v h d hr
theorem PExpr.len (e : PExpr) : e.cells.length = 5 := e.ok.len
theorem PExpr.ones (e : PExpr) : e.cells.all oneA = true := e.ok.one
theorem PExpr.arg (e : PExpr) : argA (.agg e.cells) = .agg e.cells := e.ok.arg
theorem PExpr.strip (e : PExpr) : e.cells.map strip0 = e.cells := e.ok.strip
theorem PExpr.norefs (e : PExpr) : refsL e.cells = [] := e.ok.refs
theorem PExpr.get0 (e : PExpr) : e.cells[0]? = some (.int .i64 e.op) := by rw [e.cells_eq]; rfl
theorem PExpr.get1 (e : PExpr) : e.cells[1]? = some (.str e.name) := by rw [e.cells_eq]; rfl
theorem PExpr.get2 (e : PExpr) : e.cells[2]? = some (.int .i64 e.n) := by rw [e.cells_eq]; rfl
theorem PExpr.get3 (e : PExpr) : e.cells[3]? = some (encStrs e.cons) := by rw [e.cells_eq]; rfl
theorem PExpr.get4 (e : PExpr) : e.cells[4]? = some (.slice (e.kids.map PExpr.cells) .free) := by rw [e.cells_eq]; rfl
theorem PExpr.take (e : PExpr) : List.take 5 e.cells = e.cells := by rw [List.take_of_length_le]; rw [e.len]; exact Nat.le_refl _
theorem PExpr.set4 (e : PExpr) (v : AVal) : setCells e.cells 4 [v] = some [.int .i64 e.op, .str e.name, .int .i64 e.n, encStrs e.cons, v] := by rw [e.cells_eq]; rfl
theorem PExpr.set0 (e : PExpr) (cs : List AVal) (h : cs.length = 5) : setCells cs 0 e.cells = some e.cells := setCells_all (by rw [e.len, h])
theorem strip_encStrs (l : List Str) : strip0 (encStrs l) = encStrs l := rfl
theorem PExpr.takeA (e : PExpr) (r : List AVal) : List.take 5 (e.cells ++ r) = e.cells := by rw [← e.len, List.take_left]
theorem PExpr.dropA (e : PExpr) (r : List AVal) : List.drop 5 (e.cells ++ r) = r := by rw [← e.len, List.drop_left]
theorem PExpr.drop (e : PExpr) : List.drop 5 e.cells = [] := by rw [← e.len, List.drop_length]
theorem PExpr.pures (e : PExpr) : e.cells.all pureA = true := e.ok.pure
theorem PExpr.eta (e : PExpr) : e = .mk e.op e.name e.n e.cons e.kids := by cases e; rfl
theorem PExpr.induct {p : PExpr → Prop} (h : ∀ op name n cons kids, (∀ k ∈ kids, p k) → p (.mk op name n cons kids)) (e : PExpr) : p e := by
  refine PExpr.rec (motive_1 := p) (motive_2 := fun l => ∀ k ∈ l, p k) ?_ ?_ ?_ e
  · intro op name n cons kids ih; exact h op name n cons kids ih
  · intro k hk; cases hk
  · intro a r ha hr k hk
    rcases List.mem_cons.1 hk with rfl | hk
    · exact ha
    · exact hr k hk
def lenTop : Nat := 1099511627776
def StrsSmall (l : List Str) : Prop := l.length ≤ lenTop ∧ ∀ s ∈ l, s.length ≤ lenTop
inductive PExpr.Small : PExpr → Prop where
  | mk (op : Int) (name : Str) (n : Int) (cons : List Str) (kids : List PExpr) : name.length ≤ lenTop → StrsSmall cons → kids.length ≤ lenTop → (∀ k ∈ kids, k.Small) → PExpr.Small (.mk op name n cons kids)
theorem PExpr.Small.kids {e : PExpr} (h : e.Small) : e.kids.length ≤ lenTop ∧ ∀ k ∈ e.kids, k.Small := by cases h; exact ⟨‹_›, ‹_›⟩
theorem PExpr.Small.name {e : PExpr} (h : e.Small) : e.name.length ≤ lenTop := by cases h; assumption
theorem PExpr.Small.cons {e : PExpr} (h : e.Small) : StrsSmall e.cons := by cases h; assumption
theorem wrap_small {n : Int} (h1 : -9223372036854775808 ≤ n) (h2 : n ≤ 9223372036854775807) : wrapF .i64 n = n := by
  unfold wrapF; simp [h1, h2]
theorem wrap_nat {n : Nat} (h : n ≤ lenTop) : wrapF .i64 ((n : Int) + 1) = ((n + 1 : Nat) : Int) := by
  rw [wrap_small (by omega) (by unfold lenTop at h; omega)]; rfl
def wadd (a b : Int) : Int := wrapF .i64 (a + b)
/-- Contracts of functions that neither take nor give pointers. -/
def Ret (c : Call) (f : FuncId) (args : List AVal) (v : AVal) : Prop := ∀ h, callA c h f args = some (.ret v .same)
theorem Ret.mk {c : Call} {f : FuncId} {args : List AVal} {v : AVal} (ha : refsL args = []) (hv : refs v = []) (e : c f args [] = some (.ret v .same)) : Ret c f args v := fun h => callA_pure h ha hv e
end Go.Ab
