/- Soundness of the single operations: what only computes. -/
import Derived.Test.YtnmejllfnndcbaaGreatDoorAbOp1
import Derived.Laws.Strings
import Derived.Laws.Concat
namespace Go.Ab
variable {P : Program} {S : Sh} {h : AHeap} {w : World}

theorem wrapF_eq (k : IntKind) (n : Int) : wrapF k n = k.wrap n := by
  unfold wrapF
  split
  · split
    · rename_i hc
      simp only [Bool.and_eq_true, decide_eq_true_eq] at hc
      unfold IntKind.wrap
      simp only [IntKind.bits, IntKind.signed, Bool.true_and, ge_iff_le, decide_eq_true_eq]
      split <;> rename_i h2 <;> simp at h2 <;> omega
    · rfl
  · rfl

theorem intBin_sound {op : BinOp} {k : IntKind} {a b : Int} {u : AVal} (e : intBin op k a b = some u) (h1 : op ≠ .shl) (h2 : op ≠ .shr) (t : TypeId) :
    ∃ v, (binOp op t (.int k a) (.int k b)).run P w = .ok v w ∧ VR S u v := by
  cases op <;> simp only [intBin] at e <;> first
    | (exact absurd rfl h1)
    | (exact absurd rfl h2)
    | (cases e; done)
    | (cases e; exact ⟨_, by simp [binOp, Op.intArith, Op.intCmp, Op.intBits]; rfl, by first | (rw [wrapF_eq]; exact .int _ _) | exact .int _ _ | exact .bool _⟩)
    | (split at e
       · cases e
       · rename_i hb; cases e; exact ⟨_, by simp [binOp, Op.intDiv, hb]; rfl, by first | (rw [wrapF_eq]; exact .int _ _) | exact .int _ _⟩)

theorem str_length {s : ByteArray} {l : List UInt8} (e : s.data.toList = l) : l.length = s.size := by
  rw [← e, Array.length_toList]; rfl

theorem eqS_sound {t : TypeId} {x y : AVal} {vx vy : Value} {r : Bool} (hx : VR S x vx) (hy : VR S y vy) (e : eqS P t x y = some r) (d : Nat) :
    (Op.equalIn (d + 1) t vx vy).run P w = .ok r w := by
  unfold eqS at e
  split at e
  · rename_i hu; cases hx; cases hy; cases e; simp [Op.equalIn, run_underlying hu]
  · rename_i k' k a k2 b hu
    split at e
    · rename_i hk; subst hk; cases hx; cases hy; cases e; simp [Op.equalIn, run_underlying hu]
    · cases e
  · rename_i a b hu
    cases hx with
    | str s l e1 => cases hy with
      | str s' l' e2 =>
        subst e1; subst e2
        cases e
        simp only [Op.equalIn, Sem.run_bind, run_underlying hu, Result.andThen_ok, Sem.run_pure]
        rw [beq_toListBytes, ByteArray.toList_eq, ByteArray.toList_eq]
  · cases e

theorem eqS_agg {t : TypeId} {x y : AVal} {r : Bool} (e : eqS P t x y = some r) : (isAgg t).run P w = .ok false w := by
  unfold eqS at e
  split at e
  · rename_i hu; simp [isAgg, run_underlying hu]
  · rename_i hu; simp [isAgg, run_underlying hu]
  · rename_i hu; simp [isAgg, run_underlying hu]
  · cases e

theorem eqFields_sound {a b : List AVal} {x y : Array Value} (hx : VRl S a x.toList) (hy : VRl S b y.toList) (d : Nat) :
    ∀ {fs : List Field} {r : Bool}, (∀ f ∈ fs, f.name ≠ "_") → eqFields P a b fs = some r → (Op.eqFields (d + 1) x y fs).run P w = .ok r w
  | [], r, _, e => by cases e; rfl
  | f :: fs, r, hn, e => by
    unfold eqFields at e
    split at e
    · rename_i u v hu hv
      obtain ⟨pu, hpu, hru⟩ := hx.get hu
      obtain ⟨pv, hpv, hrv⟩ := hy.get hv
      rw [Array.getElem?_toList] at hpu hpv
      have hname := hn f (by simp)
      have ih := fun r => eqFields_sound hx hy d (fs := fs) (r := r) (fun g hg => hn g (by simp [hg]))
      split at e
      · rename_i he
        simp [Op.eqFields, hname, part, eqS_agg he, hpu, hpv, eqS_sound hru hrv he, ih r e]
      · rename_i he
        cases e
        simp [Op.eqFields, hname, part, eqS_agg he, hpu, hpv, eqS_sound hru hrv he]
      · cases e
    · cases e

/-- What is asked of structs that are compared. -/
def cmpOk (P : Program) (t : TypeId) : Bool :=
  !P.stoodInHeld t && !P.eqGuardType P.depth t && (P.fieldsOf t).all fun f => f.name != "_"

theorem eqT_sound' {cmp : List TypeId} (hcmp : ∀ t ∈ cmp, cmpOk P t = true) {t : TypeId} {n : Bool} {x y : AVal} {vx vy : Value} {r : Bool} (hx : VR S x vx) (hy : VR S y vy)
    (e : eqT P cmp t n x y = some r) (d : Nat) : (Op.equalIn (d + 1 + 1) t vx vy).run P w = .ok r w := by
  unfold eqT at e
  split at e
  · rename_i hu; cases hx; cases hy; cases e; (rw [Op.equalIn]; simp only [Sem.run_bind, run_underlying hu, Result.andThen_ok]; rfl)
  · rename_i hu; cases hx; cases hy; cases e; (rw [Op.equalIn]; simp only [Sem.run_bind, run_underlying hu, Result.andThen_ok]; rfl)
  · rename_i hu; cases hx; cases hy; cases e; (rw [Op.equalIn]; simp only [Sem.run_bind, run_underlying hu, Result.andThen_ok]; rfl)
  · rename_i hu; cases hx; cases hy; cases e; (rw [Op.equalIn]; simp only [Sem.run_bind, run_underlying hu, Result.andThen_ok]; rfl)
  · rename_i hu; cases hx; cases hy; cases e; (rw [Op.equalIn]; simp only [Sem.run_bind, run_underlying hu, Result.andThen_ok]; rfl)
  · rename_i hu; cases hx; cases hy; cases e; (rw [Op.equalIn]; simp only [Sem.run_bind, run_underlying hu, Result.andThen_ok]; rfl)
  · rename_i hu; cases hx; cases hy; cases e; (rw [Op.equalIn]; simp only [Sem.run_bind, run_underlying hu, Result.andThen_ok]; rfl)
  · rename_i hu
    split at e
    · cases hx; cases hy; cases e; (rw [Op.equalIn]; simp only [Sem.run_bind, run_underlying hu, Result.andThen_ok]; rfl)
    · cases e
  · rename_i hu; cases hx; cases hy; cases e; (rw [Op.equalIn]; simp only [Sem.run_bind, run_underlying hu, Result.andThen_ok]; rfl)
  · rename_i hu; cases hx; cases hy; cases e; (rw [Op.equalIn]; simp only [Sem.run_bind, run_underlying hu, Result.andThen_ok]; rfl)
  · rename_i fs a b hu
    split at e
    · rename_i hc
      have hc := hcmp t (by simpa using hc)
      obtain ⟨p, rfl, hp⟩ := hx.inv_agg
      obtain ⟨q, rfl, hq⟩ := hy.inv_agg
      have hf : P.fieldsOf t = fs := by simp [Program.fieldsOf, hu]
      simp only [cmpOk, Bool.and_eq_true, Bool.not_eq_true', hf] at hc
      rw [run_equalIn_struct w (d + 1) t p q (by rw [hf]; exact hu) hc.1.1, hf]
      exact eqFields_sound hp hq d (fun f hf' => by
        have := hc.2
        rw [Array.all_eq_true_iff_forall_mem] at this
        simpa using this f (by simpa using hf')) e
    · cases e
  · cases e
theorem eqT_sound {cmp : List TypeId} (hcmp : ∀ t ∈ cmp, cmpOk P t = true) {t : TypeId} {n : Bool} {x y : AVal} {vx vy : Value} {r : Bool} (hx : VR S x vx) (hy : VR S y vy)
    (e : eqT P cmp t n x y = some r) : (Op.equal t vx vy).run P w = .ok r w := eqT_sound' hcmp hx hy e 9998

theorem eqT_nils {cmp : List TypeId} {t : TypeId} {n : Bool} {r : Bool} (e : eqT P cmp t n .nili .nili = some r) : n = true := by
  unfold eqT at e
  split at e <;> simp_all
theorem eqT_aggs {cmp : List TypeId} {t : TypeId} {n : Bool} {a b : List AVal} {r : Bool} (e : eqT P cmp t n (.agg a) (.agg b) = some r) : t ∈ cmp := by
  unfold eqT at e
  split at e <;> simp_all

theorem eqGuard_ok' {cmp : List TypeId} (hcmp : ∀ t ∈ cmp, cmpOk P t = true) {op : BinOp} {t : TypeId} {x y : Operand} {a b : AVal} {va vb : Value} {r : Bool}
    (hx : VR S a va) (hy : VR S b vb) (e : eqT P cmp t (isConst x || isConst y) a b = some r) (ho : op = .eql ∨ op = .neq) : (eqGuard op t x y va vb).run P w = .ok () w := by
  cases hx <;> cases hy <;> (try (rcases ho with rfl | rfl <;> rfl))
  · have hn := eqT_nils e
    cases x <;> cases y <;> simp [isConst] at hn <;> (rcases ho with rfl | rfl <;> rfl)
  · have := hcmp t (eqT_aggs e)
    simp only [cmpOk, Bool.and_eq_true, Bool.not_eq_true'] at this
    rcases ho with rfl | rfl <;> simp [eqGuard, this.1.2]
theorem eqGuard_other {op : BinOp} {t : TypeId} {x y : Operand} {va vb : Value} (h1 : op ≠ .eql) (h2 : op ≠ .neq) : (eqGuard op t x y va vb).run P w = .ok () w := by
  cases op <;> first | rfl | exact absurd rfl h1 | exact absurd rfl h2
theorem eqGuard_plain {op : BinOp} {t : TypeId} {x y : Operand} {va vb : Value} (h1 : va ≠ .nilIface) (h2 : ∀ c, va ≠ .agg c) : (eqGuard op t x y va vb).run P w = .ok () w := by
  cases op <;> first | rfl | (cases va <;> first | rfl | exact absurd rfl h1 | exact absurd rfl (h2 _) | (cases vb <;> rfl))

theorem binA_sound {cmp : List TypeId} (hcmp : ∀ t ∈ cmp, cmpOk P t = true) {op : BinOp} {t : TypeId} {x y : Operand} {a b : AVal} {va vb : Value} {u : AVal}
    (hx : VR S a va) (hy : VR S b vb) (e : binA P cmp op t (isConst x || isConst y) a b = some u) :
    ∃ v, ((do eqGuard op t x y va vb; binOp op t va vb : Sem Value)).run P w = .ok v w ∧ VR S u v := by
  unfold binA at e
  split at e
  · rename_i k a k' b
    cases hx; cases hy
    simp only [Sem.run_bind, eqGuard_plain (P := P) (w := w) (op := op) (t := t) (x := x) (y := y) (va := .int k a) (vb := .int k' b) (by simp) (by simp), Result.andThen_ok]
    have key : ∀ (op : BinOp) (h1 : op ≠ .shl) (h2 : op ≠ .shr), (if k = k' then intBin op k a b else none) = some u → ∃ v, (binOp op t (.int k a) (.int k' b)).run P w = .ok v w ∧ VR S u v := by
      intro op h1 h2 e'
      split at e'
      · rename_i hk; subst hk; exact intBin_sound e' h1 h2 t
      · cases e'
    split at e
    · cases e
    · cases e
    · rename_i h1 h2
      exact key _ h1 h2 e
  · rename_i a b
    cases hx with
    | str s l e1 => cases hy with
      | str s' l' e2 =>
        have g := eqGuard_plain (P := P) (w := w) (op := op) (t := t) (x := x) (y := y) (va := .string s) (vb := .string s') (by simp) (by simp)
        have l1 := str_length e1
        have l2 := str_length e2
        subst e1; subst e2
        simp only [Sem.run_bind, g, Result.andThen_ok]
        split at e
        · split at e
          · rename_i hm
            cases e
            have h63 : ¬ (((s.size + s'.size : Nat) : Int) > IntKind.i64.max) := by
              rw [l1, l2] at hm
              simp only [strMax] at hm
              simp only [IntKind.max, IntKind.signed, IntKind.bits, if_true]
              omega
            refine ⟨.string (s ++ s'), ?_, .str _ _ (by simp)⟩
            simp only [binOp, Op.stringOp, if_neg h63, Sem.run_pure]
          · cases e
        · cases e
          refine ⟨_, by simp only [binOp, Op.stringOp, Sem.run_pure]; rfl, ?_⟩
          rw [ByteArray.toList_eq, ByteArray.toList_eq]
          exact .bool _
        · cases e
          refine ⟨_, by simp only [binOp, Op.stringOp, Sem.run_pure]; rfl, ?_⟩
          rw [ByteArray.toList_eq, ByteArray.toList_eq]
          exact .bool _
        · cases e
  · rename_i n1 n2
    split at e
    · rename_i op
      cases he : eqT P cmp t (isConst x || isConst y) a b with
      | none => simp [he] at e
      | some r =>
        simp [he] at e; subst e
        have g := eqGuard_ok' (P := P) (w := w) hcmp hx hy he (.inl rfl)
        have q := eqT_sound (P := P) (w := w) hcmp hx hy he
        refine ⟨.bool r, ?_, .bool _⟩
        simp only [Sem.run_bind, g, Result.andThen_ok]
        cases hx <;> cases hy <;> first
          | (exact (n1 _ _ _ _ rfl rfl).elim)
          | (exact (n2 _ _ rfl rfl).elim)
          | (simp only [binOp, Sem.run_bind, q, Result.andThen_ok, Sem.run_pure])
    · rename_i op
      cases he : eqT P cmp t (isConst x || isConst y) a b with
      | none => simp [he] at e
      | some r =>
        simp [he] at e; subst e
        have g := eqGuard_ok' (P := P) (w := w) hcmp hx hy he (.inr rfl)
        have q := eqT_sound (P := P) (w := w) hcmp hx hy he
        refine ⟨.bool !r, ?_, .bool _⟩
        simp only [Sem.run_bind, g, Result.andThen_ok]
        cases hx <;> cases hy <;> first
          | (exact (n1 _ _ _ _ rfl rfl).elim)
          | (exact (n2 _ _ rfl rfl).elim)
          | (simp only [binOp, Sem.run_bind, q, Result.andThen_ok, Sem.run_pure])
    · cases e

theorem unA_sound {op : UnOp} {a : AVal} {va : Value} {u : AVal} (hx : VR S a va) (e : unA op a = some u) : ∃ v, (Op.unary op va).run P w = .ok v w ∧ VR S u v := by
  cases hx <;> cases op <;> simp only [unA] at e <;> (try (cases e; done))
  · cases e; exact ⟨_, by simp only [Op.unary, Sem.run_pure], .bool _⟩
  · cases e; exact ⟨_, by simp only [Op.unary, Op.intArith, Sem.run_pure]; rfl, by rw [wrapF_eq]; exact .int _ _⟩

theorem convA_sound {s d : TypeId} {a : AVal} {va : Value} {u : AVal} (hx : VR S a va) (e : convA P s d a = some u) : ∃ v, (convert s d va).run P w = .ok v w ∧ VR S u v := by
  unfold convA at e
  split at e
  · rename_i k1 k hs hd
    cases hx; cases e
    refine ⟨_, by simp only [convert, Sem.run_bind, run_underlying hs, run_underlying hd, Result.andThen_ok, Conv.intToInt, Sem.run_pure]; rfl, by rw [wrapF_eq]; exact .int _ _⟩
  · rename_i hs hd
    cases hx with
    | str s l e1 =>
      cases e
      exact ⟨_, by simp only [convert, Sem.run_bind, run_underlying hs, run_underlying hd, Result.andThen_ok, Sem.run_pure], .str _ _ e1⟩
  · cases e
end Go.Ab
