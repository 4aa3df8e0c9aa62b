/- Soundness of the single operations: what makes or writes memory. -/
import Derived.Test.YtnmejllfnndcbaaGreatDoorAbOp2
import Derived.Laws.Append
set_option linter.unusedSimpArgs false
set_option linter.unusedVariables false
namespace Go.Ab
variable {P : Program} {S : Sh} {h : AHeap} {w : World}

theorem strip0_sound {a : AVal} {v : Value} (k : VR S a v) : VR S (strip0 a) v := by
  cases k with
  | slice es tk ad m cap esz vs hn hc hcm hsp hsz h1 hp h2 ht => exact .slice es .free ad m cap esz vs hn hc hcm hsp hsz h1 hp h2 trivial
  | snil tk htk => exact .snil .free (.inl rfl)
  | undef => exact .undef
  | bool b => exact .bool b
  | int k n => exact .int k n
  | str s l e => exact .str s l e
  | nilp => exact .nilp
  | ptr b o r e => exact .ptr b o r e
  | eptr cs o r o0 vs h1 hp h2 => exact .eptr cs o r o0 vs h1 hp h2
  | func f x y p q hx hy h1 h2 => exact .func f x y p q hx hy h1 h2
  | nilf => exact .nilf
  | iface t a v h => exact .iface t a v h
  | nili => exact .nili
  | agg x p hx h1 => exact .agg x p hx h1
  | tuple x p hx h1 => exact .tuple x p hx h1
theorem VRl.map_strip {l : List AVal} {x : List Value} (k : VRl S l x) : VRl S (l.map strip0) x := by
  refine ⟨by simpa using k.1, fun j u v hu hv => ?_⟩
  rw [List.getElem?_map] at hu
  cases hc : l[j]? with
  | none => simp [hc] at hu
  | some a => simp [hc] at hu; subst hu; exact strip0_sound (k.2 j a v hc hv)
theorem strip2_sound {a : AVal} {v : Value} (k : VR S a v) : VR S (strip2 a) v := by
  cases a with
  | agg cs =>
    obtain ⟨x, rfl, hx⟩ := k.inv_agg
    have := VR.agg' hx.map_strip
    simpa [strip2] using this
  | _ => exact strip0_sound k
theorem argA_sound {a : AVal} {v : Value} (k : VR S a v) : VR S (argA a) v := by
  cases a with
  | agg cs => exact strip2_sound k
  | _ => exact k
theorem VRl.map_arg {l : List AVal} {x : List Value} (k : VRl S l x) : VRl S (l.map argA) x := by
  refine ⟨by simpa using k.1, fun j u v hu hv => ?_⟩
  rw [List.getElem?_map] at hu
  cases hc : l[j]? with
  | none => simp [hc] at hu
  | some a => simp [hc] at hu; subst hu; exact argA_sound (k.2 j a v hc hv)
theorem strip3_sound {a : AVal} {v : Value} (k : VR S a v) : VR S (strip3 a) v := by
  cases a with
  | tuple cs =>
    obtain ⟨x, rfl, hx⟩ := k.inv_tuple
    have : VRl S (cs.map strip2) x.toList := by
      refine ⟨by simpa using hx.1, fun j u v hu hv => ?_⟩
      rw [List.getElem?_map] at hu
      cases hc : cs[j]? with
      | none => simp [hc] at hu
      | some a => simp [hc] at hu; subst hu; exact strip2_sound (hx.2 j a v hc hv)
    have := VR.tuple' this
    simpa [strip3] using this
  | _ => exact strip2_sound k

theorem alloc_old {w : World} {o : Obj} {k : Nat} (hk : k < w.heap.size) : (w.alloc o).heap[k]? = w.heap[k]? := by
  show (w.heap.push o)[k]? = _
  rw [Array.getElem?_push, if_neg (by omega)]
theorem alloc_new {w : World} {o : Obj} : (w.alloc o).heap[w.heap.size]? = some o := by
  show (w.heap.push o)[w.heap.size]? = _
  rw [Array.getElem?_push, if_pos rfl]
theorem cell_old {w w' : World} {a : Addr} {v : Value} (hw : w'.heap[a.block]? = w.heap[a.block]?) (hc : w.cell? a = some v) : w'.cell? a = some v := by
  rw [World.cell?_of_block hw]; exact hc

/-- A new box. -/
def Sh.withBox (S : Sh) (b r : Nat) : Sh := { S with ρ := fun i => if i = b then some r else S.ρ i }

theorem newBox [Tabs P] (k : WR P S h w) {C : Array Value} {T : TypeId} {cs : List AVal} (hc : VRl S cs C.toList) :
    Step P S w (S.withBox h.length w.heap.size) (h ++ [.box cs]) (w.alloc (.cells C T)) ∧
      VR (S.withBox h.length w.heap.size) (.ptr h.length 0) (.pointer (some ⟨w.heap.size, 0, none⟩)) := by
  have hne : ∀ b r, S.ρ b = some r → b ≠ h.length := fun b r hb => by have := (k.lt hb).1; omega
  have hx : Ex S w.heap.size (S.withBox h.length w.heap.size) := by
    refine ⟨fun _ _ h => h, fun b r hb => ?_, fun t r c l ht => ⟨r, c, l, ht, .inr ⟨rfl, rfl, rfl⟩⟩, fun b r hb => ?_, fun t r c l ht => .inl ⟨c, l, ht⟩, fun _ _ h => .inl h, rfl⟩
    · simp only [Sh.withBox]; rw [if_neg (hne b r hb)]; exact hb
    · simp only [Sh.withBox] at hb
      split at hb
      · cases hb; exact .inr (Nat.le_refl _)
      · exact .inl hb
  refine ⟨⟨hx, ⟨rfl, rfl, rfl, by simp, fun i hi _ _ => alloc_old hi⟩, ?_⟩, .ptr _ _ _ (by simp [Sh.withBox])⟩
  constructor
  · intro a v ha
    exact ⟨cell_old (alloc_old (k.ltM ha)) (k.imm a v ha).1, (k.imm a v ha).2⟩
  · intro b cs' hb
    by_cases hlt : b < h.length
    · rw [List.getElem?_append_left hlt] at hb
      obtain ⟨r, C', T', h1, h2, h3, h4⟩ := k.box b cs' hb
      refine ⟨r, C', T', ?_, (alloc_old (k.lt h1).2).trans h2, h3.ext hx, h4⟩
      simp only [Sh.withBox]; rw [if_neg (by omega)]; exact h1
    · rw [List.getElem?_append_right (by omega)] at hb
      have : b = h.length := by
        have := (List.getElem?_eq_some_iff.1 hb).1; simp at this; omega
      subst this
      simp at hb; subst hb
      refine ⟨w.heap.size, C, T, by simp [Sh.withBox], alloc_new, hc.ext hx, fun o => ?_⟩
      cases hM : S.M ⟨w.heap.size, o, none⟩ with
      | none => exact hM
      | some v => have := k.ltM hM; simp at this
  · intro b len e hb
    by_cases hlt : b < h.length
    · rw [List.getElem?_append_left hlt] at hb
      obtain ⟨r, cap, C', i, h1, h2, h3⟩ := k.tok b len e hb
      exact ⟨r, cap, C', i, h1, (alloc_old (k.ltτ h1).2).trans h2, h3⟩
    · rw [List.getElem?_append_right (by omega)] at hb
      have := (List.getElem?_eq_some_iff.1 hb).1
      simp at this
      rw [show b - h.length = 0 by omega] at hb
      simp at hb
  · intro b r hb
    simp only [Sh.withBox] at hb
    split at hb
    · rename_i e; subst e; exact ⟨cs, by simp⟩
    · obtain ⟨cs', h1⟩ := k.ρdom b r hb
      exact ⟨cs', by rw [List.getElem?_append_left (k.lt hb).1]; exact h1⟩
  · intro b x hb
    obtain ⟨e, h1⟩ := k.τdom b x hb
    exact ⟨e, by rw [List.getElem?_append_left (k.ltτ hb).1]; exact h1⟩
  · intro b b' r hb hb'
    simp only [Sh.withBox] at hb hb'
    split at hb
    · cases hb
      split at hb'
      · omega
      · have := (k.lt hb').2; omega
    · split at hb'
      · cases hb'; have := (k.lt hb).2; omega
      · exact k.injρ b b' r hb hb'
  · intro b b' r c c' l l' hb hb'
    exact k.injτ b b' r c c' l l' hb hb'
  · intro b b' r c l hb hb'
    simp only [Sh.withBox] at hb
    split at hb
    · cases hb; have := (k.ltτ hb').2; omega
    · exact k.apart b b' r c l hb hb'
  · exact frz_step k hx ⟨rfl, rfl, rfl, by simp, fun i hi _ _ => alloc_old hi⟩
  · exact laid_step k hx

/-- A new block whose first m cells no longer change. -/
def Sh.withImm (S : Sh) (r : Nat) (X : List Value) : Sh := { S with M := fun a => if a.block = r ∧ a.spot = none then X[a.off]? else S.M a }

theorem withImm_ex [Tabs P] (k : WR P S h w) (X : List Value) : Ex S w.heap.size (S.withImm w.heap.size X) := by
  refine ⟨fun a v ha => ?_, fun b r hb => hb, fun t r c l ht => ⟨r, c, l, ht, .inr ⟨rfl, rfl, rfl⟩⟩, fun b r hb => .inl hb, fun t r c l ht => .inl ⟨c, l, ht⟩, fun a v ha => ?_, rfl⟩
  · simp only [Sh.withImm]
    have := k.ltM ha
    rw [if_neg (by omega)]; exact ha
  · simp only [Sh.withImm] at ha
    split at ha
    · rename_i hc; exact .inr (.inl (by omega))
    · exact .inl ha

theorem newImm [Tabs P] (k : WR P S h w) {C : Array Value} {T : TypeId} {X Y : List Value} (hC : C.toList = X ++ Y) :
    Step P S w (S.withImm w.heap.size X) h (w.alloc (.cells C T)) := by
  have hx := withImm_ex k X
  have hold : ∀ r, r < w.heap.size → ∀ o, (S.withImm w.heap.size X).M ⟨r, o, none⟩ = S.M ⟨r, o, none⟩ := fun r hr o => by
    simp only [Sh.withImm]; rw [if_neg (by simp; omega)]
  refine ⟨hx, ⟨rfl, rfl, rfl, by simp, fun i hi _ _ => alloc_old hi⟩, ?_⟩
  constructor
  · intro a v ha
    simp only [Sh.withImm] at ha
    split at ha
    · rename_i hc
      refine ⟨?_, hc.2⟩
      have : C[a.off]? = some v := by
        rw [← Array.getElem?_toList, hC, List.getElem?_append_left (List.getElem?_eq_some_iff.1 ha).1]; exact ha
      simp only [World.cell?, hc.1, alloc_new, hc.2, Option.isSome_none, Bool.false_eq_true, if_false, this]
    · exact ⟨cell_old (alloc_old (k.ltM ha)) (k.imm a v ha).1, (k.imm a v ha).2⟩
  · intro b cs' hb
    obtain ⟨r, C', T', h1, h2, h3, h4⟩ := k.box b cs' hb
    exact ⟨r, C', T', h1, (alloc_old (k.lt h1).2).trans h2, h3.ext hx, fun o => by rw [hold r (k.lt h1).2]; exact h4 o⟩
  · intro b len e hb
    obtain ⟨r, cap, C', i, h1, h2, h3, h4, h5, h6, h7, h8⟩ := k.tok b len e hb
    exact ⟨r, cap, C', i, h1, (alloc_old (k.ltτ h1).2).trans h2, h3, h4, h5, h6, h7, fun o ho => by rw [hold r (k.ltτ h1).2]; exact h8 o ho⟩
  · exact k.ρdom
  · exact k.τdom
  · exact k.injρ
  · exact k.injτ
  · exact k.apart
  · exact frz_step k hx ⟨rfl, rfl, rfl, by simp, fun i hi _ _ => alloc_old hi⟩
  · exact laid_step k hx

/-- A row of cells read as the elements of a slice. -/
def RowOf (S : Sh) (es : List (List AVal)) (sz : Nat) (X : List Value) : Prop :=
  X.length = es.length * sz ∧ (∀ c ∈ es, c.length = sz) ∧ (∀ c ∈ es, ∀ a ∈ c, pureA a = true) ∧
    ∀ (i : Nat) (c : List AVal) (j : Nat) (a : AVal), es[i]? = some c → c[j]? = some a → ∃ v, X[i * sz + j]? = some v ∧ VR S a v

theorem RowOf.nil (S : Sh) (sz : Nat) : RowOf S [] sz [] := ⟨by simp, by simp, by simp, fun i c j a hi => by simp at hi⟩
theorem RowOf.ext {S S' : Sh} {N : Nat} (hx : Ex S N S') {es : List (List AVal)} {sz : Nat} {X : List Value} (k : RowOf S es sz X) : RowOf S' es sz X :=
  ⟨k.1, k.2.1, k.2.2.1, fun i c j a hi hj => let ⟨v, h1, h2⟩ := k.2.2.2 i c j a hi hj; ⟨v, h1, h2.ext hx⟩⟩
theorem RowOf.append {es fs : List (List AVal)} {sz : Nat} {X Y : List Value} (k : RowOf S es sz X) (l : RowOf S fs sz Y) : RowOf S (es ++ fs) sz (X ++ Y) := by
  refine ⟨by simp [k.1, l.1, Nat.add_mul], fun c hc => ?_, fun c hc => ?_, fun i c j a hi hj => ?_⟩
  · rcases List.mem_append.1 hc with h | h
    · exact k.2.1 c h
    · exact l.2.1 c h
  · rcases List.mem_append.1 hc with h | h
    · exact k.2.2.1 c h
    · exact l.2.2.1 c h
  · by_cases hlt : i < es.length
    · rw [List.getElem?_append_left hlt] at hi
      obtain ⟨v, h1, h2⟩ := k.2.2.2 i c j a hi hj
      exact ⟨v, by rw [List.getElem?_append_left (List.getElem?_eq_some_iff.1 h1).1]; exact h1, h2⟩
    · rw [List.getElem?_append_right (by omega)] at hi
      obtain ⟨v, h1, h2⟩ := l.2.2.2 _ c j a hi hj
      refine ⟨v, ?_, h2⟩
      have : i * sz + j = X.length + ((i - es.length) * sz + j) := by
        rw [k.1]
        have : i = es.length + (i - es.length) := by omega
        rw [this, Nat.add_mul]
        simp
        omega
      rw [this, List.getElem?_append_right (by omega)]
      simpa using h1
theorem RowOf.one {es : List (List AVal)} {sz : Nat} {X : List Value} (k : RowOf S es sz X) (hsz : 0 < sz) : ∀ v ∈ X, v.oneCell' = true := by
  intro v hv
  obtain ⟨n, hn, rfl⟩ := List.getElem_of_mem hv
  have h1 : n / sz < es.length := by
    rw [Nat.div_lt_iff_lt_mul hsz, ← k.1]; exact hn
  have h2 : n % sz < (es[n / sz]).length := by
    rw [k.2.1 _ (List.getElem_mem h1)]; exact Nat.mod_lt _ hsz
  obtain ⟨v, h3, h4⟩ := k.2.2.2 (n / sz) _ (n % sz) _ (List.getElem?_eq_getElem h1) (List.getElem?_eq_getElem h2)
  rw [Nat.mul_comm, Nat.div_add_mod, List.getElem?_eq_getElem hn] at h3
  cases h3
  exact h4.one (k.2.2.1 _ (List.getElem_mem h1) _ (List.getElem_mem h2))

/-- The cells that a slice shows. -/
theorem VR.row [Tabs P] (k : WR P S h w) {es : List (List AVal)} {tk : Tk} {ad : Addr} {n cap sz : Nat} (hv : VR S (.slice es tk) (.slice (some ad) n cap)) (hh : headOk sz es = true) (hsz : 0 < sz) :
    ∃ X, RowOf S es sz X ∧ (∀ (j : Nat) (v : Value), X[j]? = some v → w.cell? (ad.add j) = some v) ∧
      (es ≠ [] → ∀ (j : Nat) (v : Value), X[j]? = some v → S.M ⟨ad.block, ad.off + j, none⟩ = some v) := by
  cases hv with
  | slice _ _ _ _ _ esz vs hn hc hcm hsp hs g1 hp g2 ht =>
  by_cases hne : es = []
  · subst hne
    exact ⟨[], .nil S sz, fun j v hj => by simp at hj, fun h => absurd rfl h⟩
  · have hesz := headOk_esz hs hh hne
    subst hesz
    have hspot := hsp hne
    have hM : ∀ (j : Nat) (v : Value), ((List.range (es.length * esz)).map vs)[j]? = some v → S.M ⟨ad.block, ad.off + j, none⟩ = some v := by
      intro q v hq
      rw [List.getElem?_map] at hq
      by_cases hlt : q < es.length * esz
      · rw [List.getElem?_range hlt] at hq
        simp at hq; subst hq
        have h1 : q / esz < es.length := by rw [Nat.div_lt_iff_lt_mul hsz]; exact hlt
        have h2 : q % esz < (es[q / esz]).length := by rw [hs _ (List.getElem_mem h1)]; exact Nat.mod_lt _ hsz
        have := g1 (q / esz) _ (q % esz) _ (List.getElem?_eq_getElem h1) (List.getElem?_eq_getElem h2)
        rwa [Nat.mul_comm, Nat.div_add_mod] at this
      · rw [List.getElem?_eq_none (by simp; omega)] at hq; simp at hq
    refine ⟨(List.range (es.length * esz)).map vs, ⟨by simp, hs, hp, fun i c j a hi hj => ⟨vs (i * esz + j), ?_, g2 i c j a hi hj⟩⟩, ?_, fun _ => hM⟩
    · have h1 := (List.getElem?_eq_some_iff.1 hi).1
      have h2 := (List.getElem?_eq_some_iff.1 hj).1
      have h3 := hs c (List.mem_of_getElem? hi)
      have hlt : i * esz + j < es.length * esz := by
        have : (i + 1) * esz ≤ es.length * esz := Nat.mul_le_mul_right _ h1
        rw [Nat.add_mul] at this
        omega
      rw [List.getElem?_map, List.getElem?_range hlt]
      rfl
    · intro q v hq
      have := hM q v hq
      rw [addr_add ad q (fun _ => hspot)]
      exact (k.imm _ _ this).1

/-- A slice out of cells that no longer change. -/
theorem VR.made {es : List (List AVal)} {tk : Tk} {r n cap sz : Nat} {X : List Value} (hr : RowOf S es sz X) (hM : ∀ (j : Nat) (v : Value), X[j]? = some v → S.M ⟨r, j, none⟩ = some v)
    (hn : es.length = n) (hc : n ≤ cap) (hcm : cap ≤ maxLen) (ht : TkOk S tk n cap ⟨r, 0, none⟩) : VR S (.slice es tk) (.slice (some ⟨r, 0, none⟩) n cap) := by
  refine .slice es tk ⟨r, 0, none⟩ n cap sz (fun j => X.getD j .nilFunc) hn hc hcm (fun _ => rfl) hr.2.1 ?_ hr.2.2.1 ?_ ht
  · intro i c j a hi hj
    obtain ⟨v, h1, h2⟩ := hr.2.2.2 i c j a hi hj
    simp only [Nat.zero_add, List.getD_eq_getElem?_getD, h1, Option.getD_some]
    exact hM _ _ h1
  · intro i c j a hi hj
    obtain ⟨v, h1, h2⟩ := hr.2.2.2 i c j a hi hj
    simp only [List.getD_eq_getElem?_getD, h1, Option.getD_some]
    exact h2
end Go.Ab
/- Soundness of the single operations: store, buildSlice, append. -/
namespace Go.Ab
variable {P : Program} {S : Sh} {h : AHeap} {w : World}

/-- A box's cells written. -/
theorem setBox [Tabs P] (k : WR P S h w) {b r : Nat} {cs cs' : List AVal} {C C' : Array Value} {T : TypeId} (hb : h[b]? = some (.box cs)) (hr : S.ρ b = some r)
    (hw : w.heap[r]? = some (.cells C T (0, 0))) (hc : VRl S cs' C'.toList) : Step P S w S (h.set b (.box cs')) (w.setRow r C') := by
  have hlt := (List.getElem?_eq_some_iff.1 hb).1
  have hM : ∀ o, S.M ⟨r, o, none⟩ = none := by
    obtain ⟨r', _, _, h1, _, _, h4⟩ := k.box b cs hb
    rw [hr] at h1; cases h1; exact h4
  have hnew := setRow_heap w r C C' T (0, 0) hw
  refine ⟨.refl S _, ⟨rfl, rfl, rfl, by simp [World.setRow], fun i hi h1 _ => setRow_other w r i C' (fun e => h1 b (e ▸ hr))⟩, ?_⟩
  constructor
  · intro a v ha
    refine ⟨cell_old (setRow_other w r a.block C' ?_) (k.imm a v ha).1, (k.imm a v ha).2⟩
    intro e
    have hs := (k.imm a v ha).2
    have : a = ⟨r, a.off, none⟩ := by cases a; simp_all
    rw [this, hM] at ha; cases ha
  · intro b' cs2 hb'
    by_cases he : b' = b
    · subst he
      rw [List.getElem?_set_self hlt] at hb'
      cases hb'
      exact ⟨r, C', T, hr, hnew, hc, hM⟩
    · rw [List.getElem?_set_ne (fun e => he e.symm)] at hb'
      obtain ⟨r', C2, T2, h1, h2, h3, h4⟩ := k.box b' cs2 hb'
      exact ⟨r', C2, T2, h1, (setRow_other w r r' C' (fun e => he (k.injρ b' b r (e ▸ h1) hr))).trans h2, h3, h4⟩
  · intro b' len e hb'
    have he : b' ≠ b := by
      intro he; subst he
      rw [List.getElem?_set_self hlt] at hb'; cases hb'
    rw [List.getElem?_set_ne (fun e => he e.symm)] at hb'
    obtain ⟨r', cap, C2, i, h1, h2, h3⟩ := k.tok b' len e hb'
    exact ⟨r', cap, C2, i, h1, (setRow_other w r r' C' (fun e => by subst e; exact k.apart b b' r' cap len hr h1)).trans h2, h3⟩
  · intro b' r' hb'
    obtain ⟨cs2, h1⟩ := k.ρdom b' r' hb'
    by_cases he : b' = b
    · subst he; exact ⟨cs', List.getElem?_set_self hlt⟩
    · exact ⟨cs2, by rw [List.getElem?_set_ne (fun e => he e.symm)]; exact h1⟩
  · intro b' x hb'
    obtain ⟨e, h1⟩ := k.τdom b' x hb'
    refine ⟨e, ?_⟩
    rw [List.getElem?_set_ne]
    · exact h1
    · intro he; subst he; rw [hb] at h1; cases h1
  · exact k.injρ
  · exact k.injτ
  · exact k.apart
  · exact frz_step k (.refl S _) ⟨rfl, rfl, rfl, by simp [World.setRow], fun i hi h1 _ => setRow_other w r i C' (fun e => h1 b (e ▸ hr))⟩
  · exact k.laid

theorem storeA_sound [Tabs P] (k : WR P S h w) {t : TypeId} {p x : AVal} {vp vx : Value} {h' : AHeap} {b : Nat} (hp : VR S p vp) (hx : VR S x vx) (e : storeA P h t p x = some (h', b)) :
    ∃ w', (Instr.storeAt t vp vx).run P w = .ok () w' ∧ Step P S w S h' w' := by
  unfold storeA at e
  split at e
  · rename_i b0 off
    cases hp with
    | ptr _ _ r hr =>
    split at e
    · rename_i cs n hb hs
      split at e
      · rename_i hc
        simp only [Bool.and_eq_true, decide_eq_true_eq] at hc
        cases hset : setCells cs off x.cells with
        | none => simp [hset] at e
        | some cs' =>
          simp [hset] at e
          obtain ⟨rfl, rfl⟩ := e
          obtain ⟨h1, h2⟩ := setCells_eq hset
          obtain ⟨r', C, T, g1, g2, g3, g4⟩ := k.box b0 cs hb
          rw [hr] at g1; cases g1
          have hv := hx.cells
          have hlC : C.size = cs.length := by rw [g3.1, Array.length_toList]
          have hlv : vx.cells.size = x.cells.length := by rw [hv.1, Array.length_toList]
          have hone : ∀ v ∈ vx.cells.toList, v.oneCell' = true := by
            intro v hm
            obtain ⟨u, hu, hr⟩ := hv.mem hm
            exact hr.oneA (List.all_eq_true.1 hc.2 u hu)
          have hrun := run_storeCells_at P r off T vx.cells.toList 0 C w g2 (by simp; omega) hone
          refine ⟨_, ?_, setBox k hb hr g2 (C' := (C.toList.take (off + 0) ++ vx.cells.toList ++ C.toList.drop (off + 0 + vx.cells.toList.length)).toArray) ?_⟩
          · have e3 : vx.cells.size = n := by rw [hlv, hc.1]
            simp only [Instr.storeAt, Instr.sureAddr, storeVar, Sem.run_bind, Sem.run_pure, Result.andThen_ok, run_sizeA hs, e3, ne_eq, not_true, if_false]
            exact hrun
          · rw [h2]
            have := ((g3.take off).append hv).append (g3.drop (off + x.cells.length))
            simpa [hlv] using this
      · cases e
    · cases e
  · cases e

theorem flatten_get {α : Type} (l : List α) (hl : 0 < l.length) : ∀ (n k : Nat), k < n * l.length → (List.replicate n l).flatten[k]? = l[k % l.length]?
  | 0, k, h => by omega
  | n + 1, k, h => by
    rw [List.replicate_succ, List.flatten_cons]
    by_cases hk : k < l.length
    · rw [List.getElem?_append_left hk, Nat.mod_eq_of_lt hk]
    · rw [List.getElem?_append_right (by omega), flatten_get l hl n (k - l.length) (by rw [Nat.add_mul] at h; omega)]
      congr 1
      rw [Nat.mod_eq_sub_mod (by omega : l.length ≤ k)]

theorem elemCells_sound {c c' : List AVal} (e : elemCells c = some c') : c'.length = c.length ∧ (∀ a ∈ c', pureA a = true) ∧ ∀ (j : Nat) (a' : AVal), c'[j]? = some a' → ∃ a, c[j]? = some a ∧ a' = strip0 a := by
  unfold elemCells at e
  simp only at e
  split at e
  · rename_i hc
    cases e
    refine ⟨by simp, fun a ha => List.all_eq_true.1 hc a ha, fun j a' hj => ?_⟩
    rw [List.getElem?_map] at hj
    cases hcj : c[j]? with
    | none => simp [hcj] at hj
    | some a => simp [hcj] at hj; exact ⟨a, rfl, hj.symm⟩
  · cases e

theorem elemsA_sound : ∀ {cs es : List (List AVal)}, elemsA cs = some es → es.length = cs.length ∧ ∀ (i : Nat) (c' : List AVal), es[i]? = some c' → ∃ c, cs[i]? = some c ∧ elemCells c = some c'
  | [], es, e => by cases e; exact ⟨rfl, fun i c' hi => by simp at hi⟩
  | c :: r, es, e => by
    unfold elemsA at e
    split at e
    · rename_i c' r' h1 h2
      cases e
      have ih := elemsA_sound h2
      refine ⟨by simp [ih.1], fun i d hi => ?_⟩
      cases i with
      | zero => simp at hi; subst hi; exact ⟨c, rfl, h1⟩
      | succ i => exact ih.2 i d (by simpa using hi)
    · cases e

theorem chop_get (s : Nat) : ∀ (n : Nat) (cs : List AVal), n * s ≤ cs.length → (chop s n cs).length = n ∧ ∀ (i : Nat) (c : List AVal), (chop s n cs)[i]? = some c → i < n ∧ c = (cs.drop (i * s)).take s
  | 0, cs, _ => ⟨rfl, fun i c hi => by simp [chop] at hi⟩
  | n + 1, cs, hl => by
    have ih := chop_get s n (cs.drop s) (by rw [List.length_drop, Nat.add_mul] at *; omega)
    refine ⟨by simp [chop, ih.1], fun i c hi => ?_⟩
    cases i with
    | zero => simp [chop] at hi; exact ⟨by omega, by simp [← hi]⟩
    | succ i =>
      have := ih.2 i c (by simpa [chop] using hi)
      refine ⟨by omega, ?_⟩
      rw [this.2, List.drop_drop, Nat.add_mul]
      congr 2
      omega

theorem buildSlice_sound [Tabs P] (k : WR P S h w) {t el : TypeId} {n s : Nat} {z : AVal} {ps : Array (Nat × Operand)} {us : List (Nat × AVal)} {ts : List AVal} {a : Act} {cs : List AVal} {es : List (List AVal)}
    (ht : VRl S ts a.tmps.toList) (hu : P.underlying t = some (.slice el)) (hs : sizeA P el = some (s + 1)) (hz : zeroA P el = some z) (hp : partsA ts ps.toList = some us)
    (hn : n * (s + 1) ≤ 65536) (hzl : z.cells.length = s + 1)
    (e : fillA (fun i => some (i * (s + 1), s + 1)) (List.replicate n z.cells).flatten us = some cs) (e2 : elemsA (chop (s + 1) n cs) = some es) :
    ∃ v w' S', (Instr.buildSlice t n (ps.map fun (i, x) => (i, a.eval x))).run P w = .ok v w' ∧ Step P S w S' h w' ∧ VR S' (.slice es .full) v := by
  obtain ⟨vz, hvz, hrz⟩ := run_zeroA hz w S
  have hzc := hrz.cells
  have hzs : vz.cells.size = s + 1 := by rw [← hzl, hzc.1, Array.length_toList]
  obtain ⟨h1, h2⟩ := partsA_sound ht hp
  let zero : Array Value := if n * (s + 1) = 0 then #[] else vz.cells
  let init : Array Value := (Array.range (n * (s + 1))).map (fun x => zero[x % zero.size]!)
  have hinit : VRl S (List.replicate n z.cells).flatten init.toList := by
    refine ⟨by simp [init, hzl], fun j u v hj hv => ?_⟩
    have hlt : j < n * (s + 1) := by
      have := (List.getElem?_eq_some_iff.1 hj).1
      simpa [hzl] using this
    have hzero : zero = vz.cells := by simp only [zero]; rw [if_neg (by omega)]
    rw [flatten_get z.cells (by omega) n j (by rw [hzl]; exact hlt)] at hj
    have hv' : init[j]? = some v := by rw [← Array.getElem?_toList]; exact hv
    simp only [init, Array.getElem?_map] at hv'
    rw [Array.getElem?_eq_getElem (by simpa using hlt)] at hv'
    simp only [Array.getElem_range, Option.map_some, hzero, hzs] at hv'
    have hm : j % (s + 1) < vz.cells.size := by rw [hzs]; exact Nat.mod_lt _ (by omega)
    rw [getElem!_pos vz.cells (j % (s + 1)) hm] at hv'
    cases hv'
    rw [hzl] at hj
    exact hzc.2 _ _ _ hj (by rw [Array.getElem?_toList]; exact Array.getElem?_eq_getElem hm)
  obtain ⟨y, hy, hyr⟩ := fillA_sound (S := S) (pa := fun i => some (i * (s + 1), s + 1)) (pv := fun i => some (i * (s + 1), s + 1)) (fun i q hq => hq) (vs := (ps.map fun (i, x) => (i, a.eval x)).toList) (x := init) (by
        rw [h1]; simp) (by rw [Array.toList_map, List.map_map]; exact h2) hinit e
  have hlen : ∀ {us : List (Nat × AVal)} {cs r : List AVal}, fillA (fun i => some (i * (s + 1), s + 1)) cs us = some r → r.length = cs.length := by
    intro us
    induction us with
    | nil => intro cs r e; cases e; rfl
    | cons p us ih =>
      intro cs r e
      obtain ⟨i, u⟩ := p
      unfold fillA at e
      simp only at e
      split at e
      · split at e
        · rename_i cs' hc
          obtain ⟨g1, g2⟩ := setCells_eq hc
          rw [ih e, g2]; simp; omega
        · cases e
      · cases e
  have hcl : cs.length = n * (s + 1) := by rw [hlen e]; simp [hzl]
  obtain ⟨c1, c2⟩ := chop_get (s + 1) n cs (by omega)
  obtain ⟨d1, d2⟩ := elemsA_sound e2
  have hrow : RowOf S es (s + 1) y.toList := by
    refine ⟨by rw [← hyr.1, hcl, d1, c1], fun c' hc' => ?_, fun c' hc' => ?_, fun i c' j a' hi hj => ?_⟩
    · obtain ⟨i, hi, rfl⟩ := List.getElem_of_mem hc'
      obtain ⟨c, g1, g2⟩ := d2 i _ (List.getElem?_eq_getElem hi)
      obtain ⟨g3, g4⟩ := c2 i c g1
      rw [(elemCells_sound g2).1, g4, List.length_take, List.length_drop, hcl]
      have : (i + 1) * (s + 1) ≤ n * (s + 1) := Nat.mul_le_mul_right _ g3
      rw [Nat.add_mul] at this
      omega
    · obtain ⟨i, hi, rfl⟩ := List.getElem_of_mem hc'
      obtain ⟨c, g1, g2⟩ := d2 i _ (List.getElem?_eq_getElem hi)
      exact (elemCells_sound g2).2.1
    · obtain ⟨c, g1, g2⟩ := d2 i _ hi
      obtain ⟨g3, g4⟩ := c2 i c g1
      obtain ⟨b, g5, rfl⟩ := (elemCells_sound g2).2.2 j a' hj
      rw [g4, List.getElem?_take] at g5
      split at g5
      · rw [List.getElem?_drop] at g5
        obtain ⟨v, g6, g7⟩ := hyr.get g5
        exact ⟨v, g6, strip0_sound g7⟩
      · cases g5
  have hst := newImm k (C := y) (T := el) (X := y.toList) (Y := []) (by simp)
  refine ⟨.slice (some ⟨w.heap.size, 0, none⟩) n n, w.alloc (.cells y el), _, ?_, hst, ?_⟩
  · have hne : ¬ (n * (s + 1) > 2 ^ 24) := by omega
    simp only [Instr.buildSlice, Sem.run_bind, run_underlying hu, Result.andThen_ok, run_sizeA hs]
    rw [if_neg hne]
    have hy' := hy
    simp only [init, zero] at hy'
    split
    · rename_i h0
      rw [if_pos h0] at hy'
      simp only [Sem.run_bind, Sem.run_pure, Result.andThen_ok]
      rw [hy']
      simp [newRow]
    · rename_i h0
      rw [if_neg h0] at hy'
      simp only [Sem.run_bind, Sem.run_pure, hvz, Result.andThen_ok]
      rw [hy']
      simp [newRow]
  · refine VR.made (hrow.ext hst.ext) (fun j v hj => ?_) (by rw [d1, c1]) (Nat.le_refl _) (by
      have : n ≤ n * (s + 1) := Nat.le_mul_of_pos_right n (by omega)
      simp only [maxLen]; omega) rfl
    simp only [Sh.withImm, and_self, if_true]
    exact hj
end Go.Ab
/- Soundness of the single operations: append. -/
namespace Go.Ab
variable {P : Program} {S : Sh} {h : AHeap} {w : World}

/-- A new block whose first cells no longer change and whose rest the token b owns. -/
def Sh.withTok (S : Sh) (b r cap len : Nat) (X : List Value) : Sh :=
  { S with M := fun a => if a.block = r ∧ a.spot = none then X[a.off]? else S.M a, τ := fun i => if i = b then some (r, cap, len) else S.τ i }

theorem newTok [Tabs P] (k : WR P S h w) {C : Array Value} {e : TypeId} {i : TypeInfo} {X Y : List Value} {cap len : Nat} (hi : P.info? e = some i) (h0 : 0 < i.size) (hC : C.toList = X ++ Y)
    (hsz : C.size = cap * i.size) (hX : X.length = len * i.size) (hlc : len ≤ cap) (hcm : cap ≤ maxLen)
    {b : Nat} {h' : AHeap} (hb : (b = h.length ∧ h' = h ++ [.tok len e]) ∨ (∃ l0 r0 c0, h[b]? = some (.tok l0 e) ∧ S.τ b = some (r0, c0, l0) ∧ l0 < len ∧ h' = h.set b (.tok len e))) :
    Step P S w (S.withTok b w.heap.size cap len X) h' (w.alloc (.cells C e)) := by
  have hne : ∀ i r, S.ρ i = some r → i ≠ b := fun i r hi e => by
    subst e
    obtain ⟨cs, h1⟩ := k.ρdom i r hi
    rcases hb with ⟨rfl, _⟩ | ⟨l0, r0, c0, h2, _⟩
    · simp at h1
    · rw [h2] at h1; cases h1
  have hblt : b ≤ h.length := by
    rcases hb with ⟨rfl, _⟩ | ⟨l0, r0, c0, h2, _⟩
    · exact Nat.le_refl _
    · exact Nat.le_of_lt (List.getElem?_eq_some_iff.1 h2).1
  have hget : ∀ j, j ≠ b → ∀ x, h'[j]? = some x → h[j]? = some x := by
    intro j hj x hx
    rcases hb with ⟨rfl, rfl⟩ | ⟨l0, r0, c0, h2, _, _, rfl⟩
    · have hl := (List.getElem?_eq_some_iff.1 hx).1
      simp at hl
      rwa [List.getElem?_append_left (by omega)] at hx
    · rwa [List.getElem?_set_ne (fun e => hj e.symm)] at hx
  have hget' : ∀ j, j ≠ b → ∀ x, h[j]? = some x → h'[j]? = some x := by
    intro j hj x hx
    rcases hb with ⟨rfl, rfl⟩ | ⟨l0, r0, c0, h2, _, _, rfl⟩
    · rw [List.getElem?_append_left (List.getElem?_eq_some_iff.1 hx).1]; exact hx
    · rw [List.getElem?_set_ne (fun e => hj e.symm)]; exact hx
  have hself : h'[b]? = some (.tok len e) := by
    rcases hb with ⟨rfl, rfl⟩ | ⟨l0, r0, c0, h2, _, _, rfl⟩
    · simp
    · exact List.getElem?_set_self (List.getElem?_eq_some_iff.1 h2).1
  have hx : Ex S w.heap.size (S.withTok b w.heap.size cap len X) := by
    refine ⟨fun a v ha => ?_, fun b r hb => hb, fun t r c l ht => ?_, fun b r hb => .inl hb, fun t r c l ht => ?_, fun a v ha => ?_, rfl⟩
    · simp only [Sh.withTok]
      have := k.ltM ha
      rw [if_neg (by omega)]; exact ha
    · simp only [Sh.withTok]
      by_cases htb : t = b
      · subst htb
        rw [if_pos rfl]
        refine ⟨_, _, _, rfl, .inl ?_⟩
        rcases hb with ⟨rfl, _⟩ | ⟨l0, r0, c0, h2, h3, h4, _⟩
        · have := (k.ltτ ht).1; omega
        · rw [ht] at h3; cases h3; exact h4
      · rw [if_neg htb]; exact ⟨r, c, l, ht, .inr ⟨rfl, rfl, rfl⟩⟩
    · simp only [Sh.withTok] at ht
      split at ht
      · cases ht; exact .inr (Nat.le_refl _)
      · exact .inl ⟨c, l, ht⟩
    · simp only [Sh.withTok] at ha
      split at ha
      · rename_i hc; exact .inr (.inl (by omega))
      · exact .inl ha
  have hold : ∀ r, r < w.heap.size → ∀ o, (S.withTok b w.heap.size cap len X).M ⟨r, o, none⟩ = S.M ⟨r, o, none⟩ := fun r hr o => by
    simp only [Sh.withTok]; rw [if_neg (by simp; omega)]
  refine ⟨hx, ⟨rfl, rfl, rfl, by simp, fun i hi _ _ => alloc_old hi⟩, ?_⟩
  constructor
  · intro a v ha
    simp only [Sh.withTok] at ha
    split at ha
    · rename_i hc
      refine ⟨?_, hc.2⟩
      have : C[a.off]? = some v := by
        rw [← Array.getElem?_toList, hC, List.getElem?_append_left (List.getElem?_eq_some_iff.1 ha).1]; exact ha
      simp only [World.cell?, hc.1, alloc_new, hc.2, Option.isSome_none, Bool.false_eq_true, if_false, this]
    · exact ⟨cell_old (alloc_old (k.ltM ha)) (k.imm a v ha).1, (k.imm a v ha).2⟩
  · intro j cs' hj
    have hjb : j ≠ b := by intro e; subst e; rw [hself] at hj; cases hj
    obtain ⟨r, C', T', h1, h2, h3, h4⟩ := k.box j cs' (hget j hjb _ hj)
    exact ⟨r, C', T', h1, (alloc_old (k.lt h1).2).trans h2, h3.ext hx, fun o => by rw [hold r (k.lt h1).2]; exact h4 o⟩
  · intro j len' e' hj
    by_cases hjb : j = b
    · subst hjb
      rw [hself] at hj; cases hj
      refine ⟨w.heap.size, cap, C, i, by simp [Sh.withTok], alloc_new, hi, h0, hsz, hlc, hcm, fun o ho => ?_⟩
      simp only [Sh.withTok, and_self, if_true]
      exact List.getElem?_eq_none (by omega)
    · obtain ⟨r, cap', C', i', h1, h2, h3, h4, h5, h6, h7, h8⟩ := k.tok j len' e' (hget j hjb _ hj)
      refine ⟨r, cap', C', i', ?_, (alloc_old (k.ltτ h1).2).trans h2, h3, h4, h5, h6, h7, fun o ho => by rw [hold r (k.ltτ h1).2]; exact h8 o ho⟩
      simp only [Sh.withTok]; rw [if_neg hjb]; exact h1
  · intro j r hj
    obtain ⟨cs, h1⟩ := k.ρdom j r hj
    exact ⟨cs, hget' j (hne j r hj) _ h1⟩
  · intro j x hj
    simp only [Sh.withTok] at hj
    split at hj
    · rename_i hjb; subst hjb; cases hj; exact ⟨e, hself⟩
    · rename_i hjb
      obtain ⟨e', h1⟩ := k.τdom j x hj
      exact ⟨e', hget' j hjb _ h1⟩
  · exact k.injρ
  · intro j j' r c c' l l' hj hj'
    simp only [Sh.withTok] at hj hj'
    split at hj
    · cases hj
      split at hj'
      · omega
      · have := (k.ltτ hj').2; omega
    · split at hj'
      · cases hj'; have := (k.ltτ hj).2; omega
      · exact k.injτ j j' r c c' l l' hj hj'
  · intro j j' r c l hj hj'
    simp only [Sh.withTok] at hj'
    split at hj'
    · cases hj'; have := (k.lt hj).2; omega
    · exact k.apart j j' r c l hj hj'
  · exact frz_step k hx ⟨rfl, rfl, rfl, by simp, fun i hi _ _ => alloc_old hi⟩
  · exact laid_step k hx

/-- Room that the token b owns, filled. -/
def Sh.moreTok (S : Sh) (b r cap o1 len : Nat) (Y : List Value) : Sh :=
  { S with M := fun a => if a.block = r ∧ a.spot = none ∧ o1 ≤ a.off ∧ a.off < o1 + Y.length then Y[a.off - o1]? else S.M a, τ := fun i => if i = b then some (r, cap, len) else S.τ i }

theorem moreTok [Tabs P] (k : WR P S h w) {C : Array Value} {e : TypeId} {i : TypeInfo} {Y : List Value} {b r cap len m : Nat} (hb : h[b]? = some (.tok len e)) (hτ : S.τ b = some (r, cap, len))
    (hw : w.heap[r]? = some (.cells C e (0, 0))) (hi : P.info? e = some i) (hsz : C.size = cap * i.size) (hY : Y.length = m * i.size) (hm : 0 < m) (hlc : len + m ≤ cap) :
    Step P S w (S.moreTok b r cap (len * i.size) (len + m) Y) (h.set b (.tok (len + m) e))
      (w.setRow r (C.toList.take (len * i.size) ++ Y ++ C.toList.drop (len * i.size + Y.length)).toArray) := by
  have hblt := (List.getElem?_eq_some_iff.1 hb).1
  obtain ⟨r0, cap0, C0, i0, t1, t2, t3, t4, t5, t6, t7, t8⟩ := k.tok b len e hb
  rw [hτ] at t1; cases t1
  rw [hi] at t3; cases t3
  have hfit : len * i.size + Y.length ≤ C.size := by rw [hsz, hY, ← Nat.add_mul]; exact Nat.mul_le_mul_right _ hlc
  have hclen : (C.toList.take (len * i.size) ++ Y ++ C.toList.drop (len * i.size + Y.length)).length = C.size := by simp; omega
  have hnew := setRow_heap w r C (C.toList.take (len * i.size) ++ Y ++ C.toList.drop (len * i.size + Y.length)).toArray e (0, 0) hw
  have hoth : ∀ j, j ≠ r → (w.setRow r (C.toList.take (len * i.size) ++ Y ++ C.toList.drop (len * i.size + Y.length)).toArray).heap[j]? = w.heap[j]? := fun j hj => setRow_other w r j _ hj
  generalize hCn : (C.toList.take (len * i.size) ++ Y ++ C.toList.drop (len * i.size + Y.length)) = Cn at *
  generalize hwn : w.setRow r Cn.toArray = wn at *
  have hfr : wn.os = w.os ∧ wn.tape = w.tape ∧ wn.output = w.output ∧ wn.heap.size = w.heap.size := by subst hwn; exact ⟨rfl, rfl, rfl, by simp [World.setRow]⟩
  have hfree : ∀ o v, S.M ⟨r, o, none⟩ = some v → o < len * i.size := fun o v hv => by
    by_cases ho : len * i.size ≤ o
    · rw [t8 o ho] at hv; cases hv
    · omega
  have hx : Ex S w.heap.size (S.moreTok b r cap (len * i.size) (len + m) Y) := by
    refine ⟨fun a v ha => ?_, fun b r hb => hb, fun t r' c l ht => ?_, fun b r hb => .inl hb, fun t r' c l ht => ?_, fun a v ha => ?_, rfl⟩
    · simp only [Sh.moreTok]
      rw [if_neg]
      · exact ha
      · rintro ⟨h1, h2, h3, _⟩
        have : a = ⟨r, a.off, none⟩ := by cases a; simp_all
        rw [this] at ha
        have := hfree _ _ ha
        omega
    · simp only [Sh.moreTok]
      by_cases htb : t = b
      · subst htb; rw [hτ] at ht; cases ht
        exact ⟨r, cap, len + m, by simp, .inl (by omega)⟩
      · exact ⟨r', c, l, by rw [if_neg htb]; exact ht, .inr ⟨rfl, rfl, rfl⟩⟩
    · simp only [Sh.moreTok] at ht
      split at ht
      · rename_i htb; subst htb; cases ht; exact .inl ⟨cap, len, hτ⟩
      · exact .inl ⟨c, l, ht⟩
    · simp only [Sh.moreTok] at ha
      split at ha
      · rename_i hc; exact .inr (.inr ⟨b, cap, len, by rw [hc.1]; exact hτ⟩)
      · exact .inl ha
  have hρne : ∀ j r', S.ρ j = some r' → r' ≠ r := fun j r' hj e => by subst e; exact k.apart j b r' cap len hj hτ
  have hτne : ∀ j r' c l, S.τ j = some (r', c, l) → j ≠ b → r' ≠ r := fun j r' c l hj hjb e => by subst e; exact hjb (k.injτ j b r' c cap l len hj hτ)
  have hold : ∀ r', r' ≠ r → ∀ o, (S.moreTok b r cap (len * i.size) (len + m) Y).M ⟨r', o, none⟩ = S.M ⟨r', o, none⟩ := fun r' hr o => by
    simp only [Sh.moreTok]; rw [if_neg (by simp [hr])]
  refine ⟨hx, ⟨hfr.1, hfr.2.1, hfr.2.2.1, by omega, fun j hj _ h2 => hoth j (fun e => h2 b cap len (e ▸ hτ))⟩, ?_⟩
  constructor
  · intro a v ha
    simp only [Sh.moreTok] at ha
    split at ha
    · rename_i hc
      refine ⟨?_, hc.2.1⟩
      have : Cn[a.off]? = some v := by
        rw [← hCn, List.append_assoc, List.getElem?_append_right (by rw [List.length_take, Array.length_toList]; omega)]
        have e1 : (C.toList.take (len * i.size)).length = len * i.size := by rw [List.length_take, Array.length_toList]; omega
        rw [e1, List.getElem?_append_left (List.getElem?_eq_some_iff.1 ha).1]
        exact ha
      simp only [World.cell?, hc.1, hnew, hc.2.1, Option.isSome_none, Bool.false_eq_true, if_false, List.getElem?_toArray, this]
    · have := k.imm a v ha
      refine ⟨?_, this.2⟩
      by_cases hr : a.block = r
      · have ha' : a = ⟨r, a.off, none⟩ := by have := this.2; cases a; simp_all
        have hlt := hfree a.off v (by rw [← ha']; exact ha)
        have hc := this.1
        simp only [World.cell?, hr, hw, hnew, this.2, Option.isSome_none, Bool.false_eq_true, if_false, List.getElem?_toArray] at hc ⊢
        rw [← hCn, List.append_assoc, List.getElem?_append_left (by rw [List.length_take, Array.length_toList]; omega), List.getElem?_take_of_lt hlt, Array.getElem?_toList]
        exact hc
      · exact cell_old (hoth _ hr) this.1
  · intro j cs' hj
    have hjb : j ≠ b := by intro e; subst e; rw [List.getElem?_set_self hblt] at hj; cases hj
    rw [List.getElem?_set_ne (fun e => hjb e.symm)] at hj
    obtain ⟨r', C', T', h1, h2, h3, h4⟩ := k.box j cs' hj
    exact ⟨r', C', T', h1, (hoth r' (hρne j r' h1)).trans h2, h3.ext hx, fun o => by rw [hold r' (hρne j r' h1)]; exact h4 o⟩
  · intro j len' e' hj
    by_cases hjb : j = b
    · subst hjb
      rw [List.getElem?_set_self hblt] at hj; cases hj
      refine ⟨r, cap, Cn.toArray, i, by simp [Sh.moreTok], hnew, hi, t4, by simp [hclen, hsz], hlc, t7, fun o ho => ?_⟩
      simp only [Sh.moreTok]
      rw [if_neg]
      · exact t8 o (by rw [Nat.add_mul] at ho; omega)
      · rw [Nat.add_mul] at ho; simp; omega
    · rw [List.getElem?_set_ne (fun e => hjb e.symm)] at hj
      obtain ⟨r', cap', C', i', h1, h2, h3, h4, h5, h6, h7, h8⟩ := k.tok j len' e' hj
      have hr' := hτne j r' cap' len' h1 hjb
      refine ⟨r', cap', C', i', ?_, (hoth r' hr').trans h2, h3, h4, h5, h6, h7, fun o ho => by rw [hold r' hr']; exact h8 o ho⟩
      simp only [Sh.moreTok]; rw [if_neg hjb]; exact h1
  · intro j r' hj
    obtain ⟨cs, h1⟩ := k.ρdom j r' hj
    refine ⟨cs, ?_⟩
    rw [List.getElem?_set_ne]
    · exact h1
    · intro e; subst e; rw [hb] at h1; cases h1
  · intro j x hj
    simp only [Sh.moreTok] at hj
    split at hj
    · rename_i hjb; subst hjb; cases hj; exact ⟨e, List.getElem?_set_self hblt⟩
    · rename_i hjb
      obtain ⟨e', h1⟩ := k.τdom j x hj
      exact ⟨e', by rw [List.getElem?_set_ne (fun e => hjb e.symm)]; exact h1⟩
  · exact k.injρ
  · intro j j' r' c c' l l' hj hj'
    simp only [Sh.moreTok] at hj hj'
    split at hj
    · rename_i hjb
      cases hj
      split at hj'
      · omega
      · rename_i hjb'; exact absurd rfl (hτne j' _ _ _ hj' hjb')
    · rename_i hjb
      split at hj'
      · cases hj'; exact absurd rfl (hτne j _ _ _ hj hjb)
      · exact k.injτ j j' r' c c' l l' hj hj'
  · intro j j' r' c l hj hj'
    simp only [Sh.moreTok] at hj'
    split at hj'
    · cases hj'; exact absurd rfl (hρne j _ hj)
    · exact k.apart j j' r' c l hj hj'
  · exact frz_step k hx ⟨hfr.1, hfr.2.1, hfr.2.2.1, by omega, fun j hj _ h2 => hoth j (fun e => h2 b cap len (e ▸ hτ))⟩
  · exact laid_step k hx
end Go.Ab
