/- Regions whose order is open: soundness. -/
import Derived.Test.YtnmejllfnndcbaaGreatDoorAbCode1
set_option linter.unusedSimpArgs false
set_option linter.unusedVariables false
namespace Go.Ab
variable {P : Program} {cmp : List TypeId} {call : Call}

def preds (o : Oper) : List Nat := (o.after.toList.filter (Go.Region.binds .any)).map fun e => e.on

theorem ancs_length : ∀ (ops : List Oper) (acc : List (List Nat)), (ancs acc ops).length = acc.length + ops.length
  | [], acc => rfl
  | o :: r, acc => by simp only [ancs, ancs_length r, List.length_append, List.length_cons, List.length_nil]; omega
theorem ancs_old : ∀ (ops : List Oper) (acc : List (List Nat)) (j : Nat), j < acc.length → (ancs acc ops)[j]? = acc[j]?
  | [], acc, j, h => rfl
  | o :: r, acc, j, h => by
    simp only [ancs]
    rw [ancs_old r _ j (by simp; omega), List.getElem?_append_left h]
/-- Whoever stands in j's list stands in a direct one's or is one. -/
theorem ancs_mem : ∀ (ops : List Oper) (acc : List (List Nat)) (j : Nat) (o : Oper), ops[j]? = some o → (∀ x ∈ preds o, x < acc.length + j) →
    ∀ x ∈ (ancs acc ops).getD (acc.length + j) [], x ∈ preds o ∨ ∃ p ∈ preds o, x ∈ (ancs acc ops).getD p []
  | [], acc, j, o, h, _ => by simp at h
  | q :: r, acc, 0, o, h, hp => by
    simp at h; subst h
    intro x hx
    have hlen : ∀ a : List Nat, (acc ++ [a]).length = acc.length + 1 := by simp
    simp only [ancs, Nat.add_zero, List.getD_eq_getElem?_getD] at hx ⊢
    rw [ancs_old r _ acc.length (by rw [hlen]; omega), List.getElem?_append_right (Nat.le_refl _)] at hx
    simp only [Nat.sub_self, List.getElem?_cons_zero, Option.getD_some, List.mem_eraseDups, List.mem_flatMap] at hx
    obtain ⟨e, he, hx⟩ := hx
    have hep : e.on ∈ preds q := by simp only [preds, List.mem_map]; exact ⟨e, he, rfl⟩
    rcases List.mem_cons.1 hx with rfl | hx
    · exact .inl hep
    · refine .inr ⟨e.on, hep, ?_⟩
      have := hp e.on hep
      rw [ancs_old r _ e.on (by rw [hlen]; omega), List.getElem?_append_left (by omega)]
      exact hx
  | q :: r, acc, j + 1, o, h, hp => by
    intro x hx
    simp only [ancs] at hx ⊢
    have := ancs_mem r (acc ++ [(((q.after.toList.filter (Go.Region.binds .any)).flatMap fun e => e.on :: acc.getD e.on []).eraseDups)]) j o (by simpa using h)
      (fun x hx => by have := hp x hx; simp; omega) x (by
        rw [show (acc ++ [(((q.after.toList.filter (Go.Region.binds .any)).flatMap fun e => e.on :: acc.getD e.on []).eraseDups)]).length + j = acc.length + (j + 1) by simp; omega]
        exact hx)
    exact this

theorem preds_lt {ops : List Oper} (he : edgesOk ops = true) {j : Nat} {o : Oper} (ho : ops[j]? = some o) : ∀ x ∈ preds o, x < j := by
  intro x hx
  have hj : j < ops.length := (List.getElem?_eq_some_iff.1 ho).1
  unfold edgesOk at he
  have h1 := List.all_eq_true.1 he j (by simpa using hj)
  simp only [ho] at h1
  obtain ⟨e, hem, rfl⟩ := List.mem_map.1 hx
  have := List.all_eq_true.1 h1 e hem
  simpa using this

/-- A set that holds with each its direct ones holds all behind. -/
theorem ancs_closed {ops : List Oper} (he : edgesOk ops = true) {D : Nat → Prop} (hD : ∀ j o, ops[j]? = some o → D j → ∀ x ∈ preds o, D x) :
    ∀ (j : Nat) (o : Oper), ops[j]? = some o → (∀ x ∈ preds o, D x) → ∀ x ∈ (ancs [] ops).getD j [], D x := by
  intro j
  induction j using Nat.strongRecOn with
  | _ j ih =>
    intro o ho hp x hx
    have hm := ancs_mem ops [] j o ho (fun x hx => by simpa using preds_lt he ho x hx) x (by simpa using hx)
    rcases hm with hm | ⟨p, hpm, hx'⟩
    · exact hp x hm
    · have hlt := preds_lt he ho p hpm
      have hpl : p < ops.length := Nat.lt_trans hlt (List.getElem?_eq_some_iff.1 ho).1
      have hop := List.getElem?_eq_getElem hpl
      exact ih p hlt ops[p] hop (hD p _ hop (hp p hpm)) x hx'
theorem ancs_lt {ops : List Oper} (he : edgesOk ops = true) {j : Nat} {o : Oper} (ho : ops[j]? = some o) : ∀ x ∈ (ancs [] ops).getD j [], x < j := by
  intro x hx
  exact ancs_closed he (D := fun x => x < j) (fun i o' hi hij x hx => Nat.lt_trans (preds_lt he hi x hx) hij) j o ho (fun x hx => preds_lt he ho x hx) x hx

theorem orderOk_pair {ops : List Oper} (h : orderOk ops = true) {i j : Nat} (hij : i < j) {x y : Oper} (hx : ops[i]? = some x) (hy : ops[j]? = some y) (hn : i ∉ (ancs [] ops).getD j []) : pairOk ops x y = true := by
  have hj : j < ops.length := (List.getElem?_eq_some_iff.1 hy).1
  unfold orderOk at h
  have h1 := List.all_eq_true.1 h j (by simpa using hj)
  have h2 := List.all_eq_true.1 h1 i (by simpa using hij)
  simp only [Bool.or_eq_true, List.contains_eq_mem, decide_eq_true_eq, hx, hy] at h2
  exact h2.resolve_left hn
theorem soloOk_not {ops : List Oper} {i j : Nat} {y : Oper} (hy : ops[j]? = some y) (hc : cls y ≠ 0) (hij : i ≠ j) (h1 : j ∉ (ancs [] ops).getD i []) (h2 : i ∉ (ancs [] ops).getD j []) : soloOk ops i = false := by
  cases hs : soloOk ops i with
  | false => rfl
  | true =>
    unfold soloOk at hs
    have hj : j < ops.length := (List.getElem?_eq_some_iff.1 hy).1
    have := List.all_eq_true.1 hs j (by simpa using hj)
    simp only [hy, Bool.or_eq_true, beq_iff_eq, List.contains_eq_mem, decide_eq_true_eq] at this
    rcases this with ((h | h) | h) | h
    · exact absurd h.symm hij
    · exact absurd h hc
    · exact absurd h h1
    · exact absurd h h2

/-- Whoever is ready may go first. -/
theorem move_front {lim : Nat} {ops : List Oper} (ho : orderOk ops = true) (he : edgesOk ops = true) {i : Nat} {x : Oper} (hx : ops[i]? = some x) : ∀ (pre : List Nat), (∀ p ∈ pre, p < i ∧ p ∉ (ancs [] ops).getD i []) →
    ∀ (post : List Nat) (s sF : St), opsD P cmp call lim ops (pre ++ i :: post) s = some sF → ∃ s1, stepD P cmp call lim ops i s = some s1 ∧ opsD P cmp call lim ops (pre ++ post) s1 = some sF
  | [], _, post, s, sF, e => by
    simp only [List.nil_append, opsD] at e ⊢
    split at e
    · rename_i s1 hs; exact ⟨s1, hs, e⟩
    · cases e
  | p :: pre, hp, post, s, sF, e => by
    simp only [List.cons_append, opsD] at e
    split at e
    · rename_i s1 hs
      obtain ⟨s2, h1, h2⟩ := move_front ho he hx pre (fun q hq => hp q (by simp [hq])) post s1 sF e
      obtain ⟨hlt, hn⟩ := hp p (by simp)
      obtain ⟨y, hy, _⟩ := stepD_inv hs
      have hb : i ∉ (ancs [] ops).getD p [] := fun hm => by have := ancs_lt he hy i hm; omega
      obtain ⟨s1', g1, g2⟩ := swap hy hx (orderOk_pair ho hlt hy hx hn) (fun hc => soloOk_not hx hc (by omega) hb hn) (fun hc => soloOk_not hy hc (by omega) hn hb) hs h1
      refine ⟨s1', g1, ?_⟩
      simp only [List.cons_append, opsD, g2]
      exact h2
    · cases e

theorem getD_set_self {l : Array Bool} {i : Nat} (h : i < l.size) (d : Bool) : (l.setIfInBounds i true).getD i d = true := by
  simp [Array.getD_eq_getD_getElem?, h]
theorem getD_set_ne' {l : Array Bool} {i j : Nat} (h : i ≠ j) (d : Bool) : (l.setIfInBounds i true).getD j d = l.getD j d := by
  simp [Array.getD_eq_getD_getElem?, h]

theorem filter_split {p : Nat → Bool} {i : Nat} (hp : p i = true) : ∀ (n m : Nat), m ≤ i → i < m + n →
    ∃ pre post, (List.range' m n).filter p = pre ++ i :: post ∧ (List.range' m n).filter (fun j => p j && !(j == i)) = pre ++ post ∧ ∀ q ∈ pre, q < i ∧ p q = true
  | 0, m, h1, h2 => by omega
  | n + 1, m, h1, h2 => by
    rw [List.range'_succ]
    by_cases hm : m = i
    · subst hm
      refine ⟨[], (List.range' (m + 1) n).filter p, by simp [hp], ?_, by simp⟩
      rw [List.filter_cons_of_neg (by simp)]
      simp only [List.nil_append]
      apply List.filter_congr
      intro x hx
      have : m + 1 ≤ x := by simp [List.mem_range'] at hx; omega
      have : (x == m) = false := by simp; omega
      simp [this]
    · obtain ⟨pre, post, g1, g2, g3⟩ := filter_split hp n (m + 1) (by omega) (by omega)
      have hmi : (m == i) = false := by simp [hm]
      by_cases hpm : p m = true
      · refine ⟨m :: pre, post, by rw [List.filter_cons_of_pos hpm, g1]; rfl, by rw [List.filter_cons_of_pos (by simp [hpm, hmi]), g2]; rfl, fun q hq => ?_⟩
        rcases List.mem_cons.1 hq with rfl | hq
        · exact ⟨by omega, hpm⟩
        · exact g3 q hq
      · exact ⟨pre, post, by rw [List.filter_cons_of_neg hpm, g1], by rw [List.filter_cons_of_neg (by simp [hpm]), g2], g3⟩

theorem opsD_sound [Tabs P] (hcmp : ∀ t ∈ cmp, cmpOk P t = true) (hcall : CallOk P call) (hkeep : KeepCall call) {lim : Nat} (ops : Array Oper) (ho : orderOk ops.toList = true) (he : edgesOk ops.toList = true)
    {Q : Exit → Act → World → Prop} {ds : List Deferred} : ∀ (fuel : Nat) (listed : Array Bool) (s sF : St) (a : Act) (S : Sh) (w : World), listed.size = ops.size →
      ((List.range' 0 ops.size).filter fun i => !listed.getD i true).length = fuel → (∀ j o, ops.toList[j]? = some o → listed.getD j false = true → ∀ x ∈ preds o, listed.getD x false = true) →
      WR P S s.heap w → VRl S s.tmps a.tmps.toList → a.defers = ds → opsD P cmp call lim ops.toList ((List.range' 0 ops.size).filter fun i => !listed.getD i true) s = some sF →
      Post P S w ds Q (.normal, sF) → wpAny P .any ops Q fuel listed a w
  | 0, listed, s, sF, a, S, w, hsz, hf, hcl, k, ht, hd, e, hp => by
    have hnil := List.eq_nil_of_length_eq_zero hf
    rw [hnil] at e
    cases e
    refine ⟨?_, hp S w a (.refl k) ht hd⟩
    apply List.eq_nil_iff_forall_not_mem.2
    intro i hi
    simp only [Region.ready, List.mem_filter, List.mem_range, Bool.and_eq_true] at hi
    have : i ∈ (List.range' 0 ops.size).filter fun i => !listed.getD i true := List.mem_filter.2 ⟨by simp [List.mem_range']; omega, hi.2.1⟩
    rw [hnil] at this; cases this
  | fuel + 1, listed, s, sF, a, S, w, hsz, hf, hcl, k, ht, hd, e, hp => by
    have hgetD : ∀ i, i < ops.size → listed.getD i true = listed.getD i false := fun i hi => by
      have : i < listed.size := by omega
      simp [Array.getD_eq_getD_getElem?, this]
    have hready : ∀ i, i ∈ Region.ready .any ops listed ↔ i < ops.size ∧ listed.getD i true = false ∧ ∃ o, ops.toList[i]? = some o ∧ ∀ x ∈ preds o, listed.getD x false = true := by
      intro i
      simp only [Region.ready, List.mem_filter, List.mem_range, Bool.and_eq_true, Bool.not_eq_true']
      constructor
      · rintro ⟨h1, h2, h3⟩
        refine ⟨h1, h2, ops[i], by rw [Array.getElem?_toList]; exact Array.getElem?_eq_getElem h1, ?_⟩
        rw [Array.getElem?_eq_getElem h1] at h3
        simp only [Option.map_some, Option.getD_some] at h3
        intro x hx
        obtain ⟨ed, hem, rfl⟩ := List.mem_map.1 hx
        have hmf := List.mem_filter.1 hem
        rw [Array.all_eq_true_iff_forall_mem] at h3
        have := h3 ed (by simpa using hmf.1)
        simpa [hmf.2] using this
      · rintro ⟨h1, h2, o, h3, h4⟩
        refine ⟨h1, h2, ?_⟩
        rw [Array.getElem?_toList] at h3
        rw [h3]
        simp only [Option.map_some, Option.getD_some]
        rw [Array.all_eq_true_iff_forall_mem]
        intro ed hed
        by_cases hb : Go.Region.binds .any ed = true
        · have := h4 ed.on (List.mem_map.2 ⟨ed, List.mem_filter.2 ⟨by simpa using hed, hb⟩, rfl⟩)
          simp [this]
        · simp [hb]
    refine ⟨fun hnone => ?_, fun i hi => ?_⟩
    · -- the first one that is left is ready
      exfalso
      cases hL : (List.range' 0 ops.size).filter fun i => !listed.getD i true with
      | nil => rw [hL] at hf; simp at hf
      | cons i r =>
        have him : i ∈ (List.range' 0 ops.size).filter fun i => !listed.getD i true := by rw [hL]; simp
        obtain ⟨h1, h2⟩ := List.mem_filter.1 him
        have hlt : i < ops.size := by simp [List.mem_range'] at h1; omega
        have hfirst : ∀ q, q < i → listed.getD q false = true := by
          intro q hq
          have hqs : q < ops.size := by omega
          cases hb : listed.getD q false with
          | true => rfl
          | false =>
            have hqm : q ∈ (List.range' 0 ops.size).filter fun i => !listed.getD i true := List.mem_filter.2 ⟨by simp [List.mem_range']; omega, by rw [hgetD q hqs, hb]; rfl⟩
            have hsorted : ((List.range' 0 ops.size).filter fun i => !listed.getD i true).Pairwise (· < ·) := List.Pairwise.filter _ List.pairwise_lt_range'
            rw [hL] at hqm hsorted
            rcases List.mem_cons.1 hqm with rfl | hqm
            · omega
            · have := (List.pairwise_cons.1 hsorted).1 q hqm; omega
        have hop : ops.toList[i]? = some ops[i] := by rw [Array.getElem?_toList]; exact Array.getElem?_eq_getElem hlt
        have : i ∈ Region.ready .any ops listed := (hready i).2 ⟨hlt, by simpa using h2, _, hop, fun x hx => hfirst x (preds_lt he hop x hx)⟩
        rw [hnone] at this; cases this
    · obtain ⟨hlt, hnl, o, hop, hpr⟩ := (hready i).1 hi
      obtain ⟨pre, post, g1, g2, g3⟩ := filter_split (p := fun i => !listed.getD i true) (i := i) (by simp [hnl]) ops.size 0 (Nat.zero_le _) (by omega)
      rw [g1] at e
      have hfree : ∀ q ∈ pre, q < i ∧ q ∉ (ancs [] ops.toList).getD i [] := by
        intro q hq
        obtain ⟨hqi, hqn⟩ := g3 q hq
        refine ⟨hqi, fun hm => ?_⟩
        have := ancs_closed he (D := fun x => listed.getD x false = true) hcl i o hop hpr q hm
        rw [← hgetD q (by omega)] at this
        simp [this] at hqn
      obtain ⟨s1, h1, h2⟩ := move_front ho he hop pre hfree post s sF e
      have hnew : (List.range' 0 ops.size).filter (fun j => !(listed.setIfInBounds i true).getD j true) = pre ++ post := by
        rw [← g2]
        apply List.filter_congr
        intro j _
        by_cases hj : j = i
        · subst hj; rw [getD_set_self (by omega)]; simp
        · rw [getD_set_ne' (fun e => hj e.symm)]
          have : (j == i) = false := by simp [hj]
          simp [this]
      have hlen : (pre ++ post).length = fuel := by rw [g1] at hf; simp at hf ⊢; omega
      have hcl' : ∀ j o, ops.toList[j]? = some o → (listed.setIfInBounds i true).getD j false = true → ∀ x ∈ preds o, (listed.setIfInBounds i true).getD x false = true := by
        intro j o' hj hjl x hx
        have hkeep : ∀ y, listed.getD y false = true → (listed.setIfInBounds i true).getD y false = true := by
          intro y hy
          by_cases hyi : i = y
          · subst hyi; exact getD_set_self (by omega) _
          · rw [getD_set_ne' hyi]; exact hy
        by_cases hji : j = i
        · subst hji
          rw [hop] at hj; cases hj
          exact hkeep x (hpr x hx)
        · rw [getD_set_ne' (fun e => hji e.symm)] at hjl
          exact hkeep x (hcl j o' hj hjl x hx)
      have ih := fun (s1 : St) (a : Act) (S : Sh) (w : World) => opsD_sound hcmp hcall hkeep (lim := lim) ops ho he (Q := Q) (ds := ds) fuel (listed.setIfInBounds i true) s1 sF a S w (by simpa using hsz) (by rw [hnew]; exact hlen) hcl'
      obtain ⟨o', ho', hcase⟩ := stepD_inv h1
      rw [hop] at ho'; cases ho'
      have hopa : ops[i]? = some o := by rw [← Array.getElem?_toList]; exact hop
      unfold wpOp
      simp only [hopa]
      rcases hcase with ⟨hw, v, f, hov, _, rfl⟩ | ⟨hw, rfl⟩
      · rw [if_pos (wantedA_sound ht hw)]
        refine .inl (opA_sound hcmp hcall hkeep k ht hov ?_)
        intro v' S' w' st hv
        exact ih _ _ S' w' st.wr (put_rel (ht.ext st.ext) hv _) (by rw [put_defers]; exact hd) (by rw [hnew]; exact h2) (hp.later st)
      · rw [if_neg (by rw [wantedA_sound ht hw]; simp)]
        exact ih ⟨setT s.tmps o.dst .undef, s.heap, s.dirty⟩ _ S w k (put_rel ht .undef _) (by rw [put_defers]; exact hd) (by rw [hnew]; exact h2) hp

theorem region_draw_sound [Tabs P] (hmix : P.follows .mixedOrders = true) (hcmp : ∀ t ∈ cmp, cmpOk P t = true) (hcall : CallOk P call) (hkeep : KeepCall call) {lim : Nat} {id : Nat} {ops : Array Oper} {Q : Exit → Act → World → Prop} {ds : List Deferred}
    {s sF : St} {a : Act} {S : Sh} {w : World} (ho : orderOk ops.toList = true) (he : edgesOk ops.toList = true) (k : WR P S s.heap w) (ht : VRl S s.tmps a.tmps.toList) (hd : a.defers = ds)
    (e : opsD P cmp call lim ops.toList (List.range ops.size) s = some sF) (hp : Post P S w ds Q (.normal, sF)) : (Code.region id ops true).wp P Q a w := by
  refine wp_region_any hmix ?_
  have hall : (List.range' 0 ops.size).filter (fun i => !(Array.replicate ops.size false).getD i true) = List.range ops.size := by
    rw [List.range_eq_range']
    apply List.filter_eq_self.2
    intro i hi
    have : i < ops.size := by simp [List.mem_range'] at hi; omega
    simp [Array.getD_eq_getD_getElem?, this]
  refine opsD_sound hcmp hcall hkeep ops ho he ops.size (Array.replicate ops.size false) s sF a S w.drew (by simp) (by rw [hall]; simp) ?_ k.drew ht hd (by rw [hall]; exact e) (hp.later (Step.drew k))
  intro j o _ hj
  exfalso
  simp [Array.getD_eq_getD_getElem?, Array.getElem?_replicate] at hj
  split at hj <;> simp at hj
end Go.Ab
