/- Soundness of the single operations: store, buildSlice, append. -/
import Derived.Test.YtnmejllfnndcbaaGreatDoorAbOp5
namespace Go.Ab
variable {P : Program} {S : Sh} {h : AHeap} {w : World}

/-- A box's cells written. -/
theorem setBox [Tabs P] (k : WR P S h w) {b r : Nat} {cs cs' : List AVal} {C C' : Array Value} {T : TypeId} (hb : h[b]? = some (.box cs)) (hr : S.ρ b = some r)
    (hw : w.heap[r]? = some (.cells C T (0, 0))) (hc : VRl S cs' C'.toList) : Step P S w S (h.set b (.box cs')) (w.setRow r C') := by
  have hlt := (List.getElem?_eq_some_iff.1 hb).1
  have hM : ∀ o, S.M ⟨r, o, none⟩ = none := by
    obtain ⟨r', _, _, h1, _, _, h4⟩ := k.box b cs hb
    rw [hr] at h1; cases h1; exact h4
  have hnew := setRow_heap w r C C' T (0, 0) hw
  refine ⟨.refl S _, ⟨rfl, rfl, rfl, by simp [World.setRow], fun i hi h1 _ => setRow_other w r i C' (fun e => h1 b (e ▸ hr))⟩, ?_⟩
  constructor
  · intro a v ha
    refine ⟨cell_old (setRow_other w r a.block C' ?_) (k.imm a v ha).1, (k.imm a v ha).2⟩
    intro e
    have hs := (k.imm a v ha).2
    have : a = ⟨r, a.off, none⟩ := by cases a; simp_all
    rw [this, hM] at ha; cases ha
  · intro b' cs2 hb'
    by_cases he : b' = b
    · subst he
      rw [List.getElem?_set_self hlt] at hb'
      cases hb'
      exact ⟨r, C', T, hr, hnew, hc, hM⟩
    · rw [List.getElem?_set_ne (fun e => he e.symm)] at hb'
      obtain ⟨r', C2, T2, h1, h2, h3, h4⟩ := k.box b' cs2 hb'
      exact ⟨r', C2, T2, h1, (setRow_other w r r' C' (fun e => he (k.injρ b' b r (e ▸ h1) hr))).trans h2, h3, h4⟩
  · intro b' len e hb'
    have he : b' ≠ b := by
      intro he; subst he
      rw [List.getElem?_set_self hlt] at hb'; cases hb'
    rw [List.getElem?_set_ne (fun e => he e.symm)] at hb'
    obtain ⟨r', cap, C2, i, h1, h2, h3⟩ := k.tok b' len e hb'
    exact ⟨r', cap, C2, i, h1, (setRow_other w r r' C' (fun e => by subst e; exact k.apart b b' r' cap len hr h1)).trans h2, h3⟩
  · intro b' r' hb'
    obtain ⟨cs2, h1⟩ := k.ρdom b' r' hb'
    by_cases he : b' = b
    · subst he; exact ⟨cs', List.getElem?_set_self hlt⟩
    · exact ⟨cs2, by rw [List.getElem?_set_ne (fun e => he e.symm)]; exact h1⟩
  · intro b' x hb'
    obtain ⟨e, h1⟩ := k.τdom b' x hb'
    refine ⟨e, ?_⟩
    rw [List.getElem?_set_ne]
    · exact h1
    · intro he; subst he; rw [hb] at h1; cases h1
  · exact k.injρ
  · exact k.injτ
  · exact k.apart
  · exact frz_step k (.refl S _) ⟨rfl, rfl, rfl, by simp [World.setRow], fun i hi h1 _ => setRow_other w r i C' (fun e => h1 b (e ▸ hr))⟩
  · exact k.laid

theorem storeA_sound [Tabs P] (k : WR P S h w) {t : TypeId} {p x : AVal} {vp vx : Value} {h' : AHeap} {b : Nat} (hp : VR S p vp) (hx : VR S x vx) (e : storeA P h t p x = some (h', b)) :
    ∃ w', (Instr.storeAt t vp vx).run P w = .ok () w' ∧ Step P S w S h' w' := by
  unfold storeA at e
  split at e
  · rename_i b0 off
    cases hp with
    | ptr _ _ r hr =>
    split at e
    · rename_i cs n hb hs
      split at e
      · rename_i hc
        simp only [Bool.and_eq_true, decide_eq_true_eq] at hc
        cases hset : setCells cs off x.cells with
        | none => simp [hset] at e
        | some cs' =>
          simp [hset] at e
          obtain ⟨rfl, rfl⟩ := e
          obtain ⟨h1, h2⟩ := setCells_eq hset
          obtain ⟨r', C, T, g1, g2, g3, g4⟩ := k.box b0 cs hb
          rw [hr] at g1; cases g1
          have hv := hx.cells
          have hlC : C.size = cs.length := by rw [g3.1, Array.length_toList]
          have hlv : vx.cells.size = x.cells.length := by rw [hv.1, Array.length_toList]
          have hone : ∀ v ∈ vx.cells.toList, v.oneCell' = true := by
            intro v hm
            obtain ⟨u, hu, hr⟩ := hv.mem hm
            exact hr.oneA (List.all_eq_true.1 hc.2 u hu)
          have hrun := run_storeCells_at P r off T vx.cells.toList 0 C w g2 (by simp; omega) hone
          refine ⟨_, ?_, setBox k hb hr g2 (C' := (C.toList.take (off + 0) ++ vx.cells.toList ++ C.toList.drop (off + 0 + vx.cells.toList.length)).toArray) ?_⟩
          · have e3 : vx.cells.size = n := by rw [hlv, hc.1]
            simp only [Instr.storeAt, Instr.sureAddr, storeVar, Sem.run_bind, Sem.run_pure, Result.andThen_ok, run_sizeA hs, e3, ne_eq, not_true, if_false]
            exact hrun
          · rw [h2]
            have := ((g3.take off).append hv).append (g3.drop (off + x.cells.length))
            simpa [hlv] using this
      · cases e
    · cases e
  · cases e

theorem flatten_get {α : Type} (l : List α) (hl : 0 < l.length) : ∀ (n k : Nat), k < n * l.length → (List.replicate n l).flatten[k]? = l[k % l.length]?
  | 0, k, h => by omega
  | n + 1, k, h => by
    rw [List.replicate_succ, List.flatten_cons]
    by_cases hk : k < l.length
    · rw [List.getElem?_append_left hk, Nat.mod_eq_of_lt hk]
    · rw [List.getElem?_append_right (by omega), flatten_get l hl n (k - l.length) (by rw [Nat.add_mul] at h; omega)]
      congr 1
      rw [Nat.mod_eq_sub_mod (by omega : l.length ≤ k)]

theorem elemCells_sound {c c' : List AVal} (e : elemCells c = some c') : c'.length = c.length ∧ (∀ a ∈ c', pureA a = true) ∧ ∀ (j : Nat) (a' : AVal), c'[j]? = some a' → ∃ a, c[j]? = some a ∧ a' = strip0 a := by
  unfold elemCells at e
  simp only at e
  split at e
  · rename_i hc
    cases e
    refine ⟨by simp, fun a ha => List.all_eq_true.1 hc a ha, fun j a' hj => ?_⟩
    rw [List.getElem?_map] at hj
    cases hcj : c[j]? with
    | none => simp [hcj] at hj
    | some a => simp [hcj] at hj; exact ⟨a, rfl, hj.symm⟩
  · cases e

theorem elemsA_sound : ∀ {cs es : List (List AVal)}, elemsA cs = some es → es.length = cs.length ∧ ∀ (i : Nat) (c' : List AVal), es[i]? = some c' → ∃ c, cs[i]? = some c ∧ elemCells c = some c'
  | [], es, e => by cases e; exact ⟨rfl, fun i c' hi => by simp at hi⟩
  | c :: r, es, e => by
    unfold elemsA at e
    split at e
    · rename_i c' r' h1 h2
      cases e
      have ih := elemsA_sound h2
      refine ⟨by simp [ih.1], fun i d hi => ?_⟩
      cases i with
      | zero => simp at hi; subst hi; exact ⟨c, rfl, h1⟩
      | succ i => exact ih.2 i d (by simpa using hi)
    · cases e

theorem chop_get (s : Nat) : ∀ (n : Nat) (cs : List AVal), n * s ≤ cs.length → (chop s n cs).length = n ∧ ∀ (i : Nat) (c : List AVal), (chop s n cs)[i]? = some c → i < n ∧ c = (cs.drop (i * s)).take s
  | 0, cs, _ => ⟨rfl, fun i c hi => by simp [chop] at hi⟩
  | n + 1, cs, hl => by
    have ih := chop_get s n (cs.drop s) (by rw [List.length_drop, Nat.add_mul] at *; omega)
    refine ⟨by simp [chop, ih.1], fun i c hi => ?_⟩
    cases i with
    | zero => simp [chop] at hi; exact ⟨by omega, by simp [← hi]⟩
    | succ i =>
      have := ih.2 i c (by simpa [chop] using hi)
      refine ⟨by omega, ?_⟩
      rw [this.2, List.drop_drop, Nat.add_mul]
      congr 2
      omega

theorem buildSlice_sound [Tabs P] (k : WR P S h w) {t el : TypeId} {n s : Nat} {z : AVal} {ps : Array (Nat × Operand)} {us : List (Nat × AVal)} {ts : List AVal} {a : Act} {cs : List AVal} {es : List (List AVal)}
    (ht : VRl S ts a.tmps.toList) (hu : P.underlying t = some (.slice el)) (hs : sizeA P el = some (s + 1)) (hz : zeroA P el = some z) (hp : partsA ts ps.toList = some us)
    (hn : n * (s + 1) ≤ 65536) (hzl : z.cells.length = s + 1)
    (e : fillA (fun i => some (i * (s + 1), s + 1)) (List.replicate n z.cells).flatten us = some cs) (e2 : elemsA (chop (s + 1) n cs) = some es) :
    ∃ v w' S', (Instr.buildSlice t n (ps.map fun (i, x) => (i, a.eval x))).run P w = .ok v w' ∧ Step P S w S' h w' ∧ VR S' (.slice es .full) v := by
  obtain ⟨vz, hvz, hrz⟩ := run_zeroA hz w S
  have hzc := hrz.cells
  have hzs : vz.cells.size = s + 1 := by rw [← hzl, hzc.1, Array.length_toList]
  obtain ⟨h1, h2⟩ := partsA_sound ht hp
  let zero : Array Value := if n * (s + 1) = 0 then #[] else vz.cells
  let init : Array Value := (Array.range (n * (s + 1))).map (fun x => zero[x % zero.size]!)
  have hinit : VRl S (List.replicate n z.cells).flatten init.toList := by
    refine ⟨by simp [init, hzl], fun j u v hj hv => ?_⟩
    have hlt : j < n * (s + 1) := by
      have := (List.getElem?_eq_some_iff.1 hj).1
      simpa [hzl] using this
    have hzero : zero = vz.cells := by simp only [zero]; rw [if_neg (by omega)]
    rw [flatten_get z.cells (by omega) n j (by rw [hzl]; exact hlt)] at hj
    have hv' : init[j]? = some v := by rw [← Array.getElem?_toList]; exact hv
    simp only [init, Array.getElem?_map] at hv'
    rw [Array.getElem?_eq_getElem (by simpa using hlt)] at hv'
    simp only [Array.getElem_range, Option.map_some, hzero, hzs] at hv'
    have hm : j % (s + 1) < vz.cells.size := by rw [hzs]; exact Nat.mod_lt _ (by omega)
    rw [getElem!_pos vz.cells (j % (s + 1)) hm] at hv'
    cases hv'
    rw [hzl] at hj
    exact hzc.2 _ _ _ hj (by rw [Array.getElem?_toList]; exact Array.getElem?_eq_getElem hm)
  obtain ⟨y, hy, hyr⟩ := fillA_sound (S := S) (pa := fun i => some (i * (s + 1), s + 1)) (pv := fun i => some (i * (s + 1), s + 1)) (fun i q hq => hq) (vs := (ps.map fun (i, x) => (i, a.eval x)).toList) (x := init) (by
        rw [h1]; simp) (by rw [Array.toList_map, List.map_map]; exact h2) hinit e
  have hlen : ∀ {us : List (Nat × AVal)} {cs r : List AVal}, fillA (fun i => some (i * (s + 1), s + 1)) cs us = some r → r.length = cs.length := by
    intro us
    induction us with
    | nil => intro cs r e; cases e; rfl
    | cons p us ih =>
      intro cs r e
      obtain ⟨i, u⟩ := p
      unfold fillA at e
      simp only at e
      split at e
      · split at e
        · rename_i cs' hc
          obtain ⟨g1, g2⟩ := setCells_eq hc
          rw [ih e, g2]; simp; omega
        · cases e
      · cases e
  have hcl : cs.length = n * (s + 1) := by rw [hlen e]; simp [hzl]
  obtain ⟨c1, c2⟩ := chop_get (s + 1) n cs (by omega)
  obtain ⟨d1, d2⟩ := elemsA_sound e2
  have hrow : RowOf S es (s + 1) y.toList := by
    refine ⟨by rw [← hyr.1, hcl, d1, c1], fun c' hc' => ?_, fun c' hc' => ?_, fun i c' j a' hi hj => ?_⟩
    · obtain ⟨i, hi, rfl⟩ := List.getElem_of_mem hc'
      obtain ⟨c, g1, g2⟩ := d2 i _ (List.getElem?_eq_getElem hi)
      obtain ⟨g3, g4⟩ := c2 i c g1
      rw [(elemCells_sound g2).1, g4, List.length_take, List.length_drop, hcl]
      have : (i + 1) * (s + 1) ≤ n * (s + 1) := Nat.mul_le_mul_right _ g3
      rw [Nat.add_mul] at this
      omega
    · obtain ⟨i, hi, rfl⟩ := List.getElem_of_mem hc'
      obtain ⟨c, g1, g2⟩ := d2 i _ (List.getElem?_eq_getElem hi)
      exact (elemCells_sound g2).2.1
    · obtain ⟨c, g1, g2⟩ := d2 i _ hi
      obtain ⟨g3, g4⟩ := c2 i c g1
      obtain ⟨b, g5, rfl⟩ := (elemCells_sound g2).2.2 j a' hj
      rw [g4, List.getElem?_take] at g5
      split at g5
      · rw [List.getElem?_drop] at g5
        obtain ⟨v, g6, g7⟩ := hyr.get g5
        exact ⟨v, g6, strip0_sound g7⟩
      · cases g5
  have hst := newImm k (C := y) (T := el) (X := y.toList) (Y := []) (by simp)
  refine ⟨.slice (some ⟨w.heap.size, 0, none⟩) n n, w.alloc (.cells y el), _, ?_, hst, ?_⟩
  · have hne : ¬ (n * (s + 1) > 2 ^ 24) := by omega
    simp only [Instr.buildSlice, Sem.run_bind, run_underlying hu, Result.andThen_ok, run_sizeA hs]
    rw [if_neg hne]
    have hy' := hy
    simp only [init, zero] at hy'
    split
    · rename_i h0
      rw [if_pos h0] at hy'
      simp only [Sem.run_bind, Sem.run_pure, Result.andThen_ok]
      rw [hy']
      simp [newRow]
    · rename_i h0
      rw [if_neg h0] at hy'
      simp only [Sem.run_bind, Sem.run_pure, hvz, Result.andThen_ok]
      rw [hy']
      simp [newRow]
  · refine VR.made (hrow.ext hst.ext) (fun j v hj => ?_) (by rw [d1, c1]) (Nat.le_refl _) (by
      have : n ≤ n * (s + 1) := Nat.le_mul_of_pos_right n (by omega)
      simp only [maxLen]; omega) rfl
    simp only [Sh.withImm, and_self, if_true]
    exact hj
end Go.Ab
