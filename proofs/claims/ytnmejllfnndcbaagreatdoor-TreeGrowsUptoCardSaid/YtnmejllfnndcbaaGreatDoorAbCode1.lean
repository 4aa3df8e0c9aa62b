/- Soundness of regions. -/
import Derived.Test.YtnmejllfnndcbaaGreatDoorAbOp9
import Derived.Orders
namespace Go.Ab
variable {P : Program}

theorem wantedA_sound {S : Sh} {ops : Array Oper} {o : Oper} {ts : List AVal} {a : Act} {b : Bool} (ht : VRl S ts a.tmps.toList) (e : wantedA ops.toList o ts = some b) :
    Region.wanted o (yielded ops a.tmps) = b := by
  unfold wantedA at e
  unfold Region.wanted
  split at e
  · rename_i hg; cases e; simp [hg]
  · rename_i j want hg
    simp only [hg]
    split at e
    · rename_i oj hj
      rw [Array.getElem?_toList] at hj
      split at e
      · rename_i d hd
        split at e
        · rename_i c hc
          cases e
          obtain ⟨v, hv, hr⟩ := ht.get hc
          rw [Array.getElem?_toList] at hv
          cases hr
          simp [yielded, hj, hd, hv]
        · rename_i hc
          cases e
          obtain ⟨v, hv, hr⟩ := ht.get hc
          rw [Array.getElem?_toList] at hv
          cases hr
          simp [yielded, hj, hd, hv]
        · cases e
      · cases e
    · cases e

theorem put_rel {S : Sh} {ts : List AVal} {a : Act} {u : AVal} {v : Value} (ht : VRl S ts a.tmps.toList) (hv : VR S u v) (dst : Option Tmp) : VRl S (setT ts dst u) (a.put dst v).tmps.toList := by
  cases dst with
  | none => exact ht
  | some d => simpa [setT, Act.put] using ht.set d hv
theorem put_defers (a : Act) (dst : Option Tmp) (v : Value) : (a.put dst v).defers = a.defers := by cases dst <;> rfl

/-- What the code behind may count on. -/
def Post (P : Program) [Tabs P] (S : Sh) (w : World) (ds : List Deferred) (Q : Exit → Act → World → Prop) (x : AEx × St) : Prop :=
  ∀ S' w' a', Step P S w S' x.2.heap w' → VRl S' x.2.tmps a'.tmps.toList → a'.defers = ds →
    match x.1 with
    | .normal => Q .normal a' w'
    | .exit id => Q (.exit id) a' w'
    | .ret => Q .ret a' w'
    | .pan u => ∀ v, VR S' u v → Q (.panic [{ v, recovered := false }]) a' w'

theorem Post.later [Tabs P] {S S1 : Sh} {w w1 : World} {h1 : AHeap} {ds : List Deferred} {Q : Exit → Act → World → Prop} {x : AEx × St} (k : Post P S w ds Q x) (st : Step P S w S1 h1 w1) : Post P S1 w1 ds Q x :=
  fun S' w' a' h ht hd => k S' w' a' (st.trans h) ht hd

theorem opsA_sound [Tabs P] {cmp : List TypeId} (hcmp : ∀ t ∈ cmp, cmpOk P t = true) {call : Call} (hcall : CallOk P call) (hkeep : KeepCall call) (ops : Array Oper) {Q : Exit → Act → World → Prop} {ds : List Deferred} :
    ∀ (m n : Nat) (s : St) (x : AEx × St) (a : Act) (S : Sh) (w : World), n + m = ops.size → WR P S s.heap w → VRl S s.tmps a.tmps.toList → a.defers = ds →
      opsA P cmp call ops.toList (ops.toList.drop n) s = some x → Post P S w ds Q x → wpOps P ops Q (List.range' n m) a w
  | 0, n, s, x, a, S, w, hn, k, ht, hd, e, hp => by
    rw [List.drop_eq_nil_of_le (by simp; omega)] at e
    cases e
    exact hp S w a (.refl k) ht hd
  | m + 1, n, s, x, a, S, w, hn, k, ht, hd, e, hp => by
    have hlt : n < ops.size := by omega
    have hg : ops[n]? = some ops[n] := Array.getElem?_eq_getElem hlt
    rw [show ops.toList.drop n = ops[n] :: ops.toList.drop (n + 1) by
      rw [← Array.getElem_toList (h := hlt)]; exact (List.drop_eq_getElem_cons (by simpa using hlt))] at e
    rw [List.range'_succ]
    unfold wpOps
    simp only [hg]
    unfold opsA at e
    split at e
    · rename_i hw
      rw [if_pos (wantedA_sound ht hw)]
      refine .inl ?_
      split at e
      · rename_i v f ho
        refine opA_sound hcmp hcall hkeep k ht ho ?_
        intro v' S' w' st hv
        exact opsA_sound hcmp hcall hkeep ops m (n + 1) _ x _ S' w' (by omega) st.wr (put_rel (ht.ext st.ext) hv _) (by rw [put_defers]; exact hd) e (hp.later st)
      · rename_i v f ho
        cases e
        refine opA_sound hcmp hcall hkeep k ht ho ?_
        intro v' S' w' st hv
        exact hp S' w' a st (ht.ext st.ext) hd v' hv
      · cases e
    · rename_i hw
      rw [if_neg (by rw [wantedA_sound ht hw]; simp)]
      exact opsA_sound hcmp hcall hkeep ops m (n + 1) ⟨setT s.tmps ops[n].dst .undef, s.heap, s.dirty⟩ x _ S w (by omega) k (put_rel ht .undef _) (by rw [put_defers]; exact hd) e hp
    · cases e

theorem region_sound [Tabs P] {cmp : List TypeId} (hcmp : ∀ t ∈ cmp, cmpOk P t = true) {call : Call} (hcall : CallOk P call) (hkeep : KeepCall call) {id : Nat} {ops : Array Oper} {Q : Exit → Act → World → Prop} {ds : List Deferred}
    {s : St} {x : AEx × St} {a : Act} {S : Sh} {w : World} (k : WR P S s.heap w) (ht : VRl S s.tmps a.tmps.toList) (hd : a.defers = ds)
    (e : opsA P cmp call ops.toList ops.toList s = some x) (hp : Post P S w ds Q x) : (Code.region id ops false).wp P Q a w := by
  refine wp_region ?_
  have := opsA_sound hcmp hcall hkeep ops (Q := Q) (ds := ds) ops.size 0 s x a S w (by omega) k ht hd (by simpa using e) hp
  rwa [List.range_eq_range']
end Go.Ab
