/- Soundness of the single operations: what makes or writes memory. -/
import Derived.Test.YtnmejllfnndcbaaGreatDoorAbOp4
import Derived.Laws.Append
namespace Go.Ab
variable {P : Program} {S : Sh} {h : AHeap} {w : World}

theorem strip0_sound {a : AVal} {v : Value} (k : VR S a v) : VR S (strip0 a) v := by
  cases k with
  | slice es tk ad m cap esz vs hn hc hcm hsp hsz h1 hp h2 ht => exact .slice es .free ad m cap esz vs hn hc hcm hsp hsz h1 hp h2 trivial
  | snil tk htk => exact .snil .free (.inl rfl)
  | undef => exact .undef
  | bool b => exact .bool b
  | int k n => exact .int k n
  | str s l e => exact .str s l e
  | nilp => exact .nilp
  | ptr b o r e => exact .ptr b o r e
  | eptr cs o r o0 vs h1 hp h2 => exact .eptr cs o r o0 vs h1 hp h2
  | func f x y p q hx hy h1 h2 => exact .func f x y p q hx hy h1 h2
  | nilf => exact .nilf
  | iface t a v h => exact .iface t a v h
  | nili => exact .nili
  | agg x p hx h1 => exact .agg x p hx h1
  | tuple x p hx h1 => exact .tuple x p hx h1
theorem VRl.map_strip {l : List AVal} {x : List Value} (k : VRl S l x) : VRl S (l.map strip0) x := by
  refine ⟨by simpa using k.1, fun j u v hu hv => ?_⟩
  rw [List.getElem?_map] at hu
  cases hc : l[j]? with
  | none => simp [hc] at hu
  | some a => simp [hc] at hu; subst hu; exact strip0_sound (k.2 j a v hc hv)
theorem strip2_sound {a : AVal} {v : Value} (k : VR S a v) : VR S (strip2 a) v := by
  cases a with
  | agg cs =>
    obtain ⟨x, rfl, hx⟩ := k.inv_agg
    have := VR.agg' hx.map_strip
    simpa [strip2] using this
  | _ => exact strip0_sound k
theorem argA_sound {a : AVal} {v : Value} (k : VR S a v) : VR S (argA a) v := by
  cases a with
  | agg cs => exact strip2_sound k
  | _ => exact k
theorem VRl.map_arg {l : List AVal} {x : List Value} (k : VRl S l x) : VRl S (l.map argA) x := by
  refine ⟨by simpa using k.1, fun j u v hu hv => ?_⟩
  rw [List.getElem?_map] at hu
  cases hc : l[j]? with
  | none => simp [hc] at hu
  | some a => simp [hc] at hu; subst hu; exact argA_sound (k.2 j a v hc hv)
theorem strip3_sound {a : AVal} {v : Value} (k : VR S a v) : VR S (strip3 a) v := by
  cases a with
  | tuple cs =>
    obtain ⟨x, rfl, hx⟩ := k.inv_tuple
    have : VRl S (cs.map strip2) x.toList := by
      refine ⟨by simpa using hx.1, fun j u v hu hv => ?_⟩
      rw [List.getElem?_map] at hu
      cases hc : cs[j]? with
      | none => simp [hc] at hu
      | some a => simp [hc] at hu; subst hu; exact strip2_sound (hx.2 j a v hc hv)
    have := VR.tuple' this
    simpa [strip3] using this
  | _ => exact strip2_sound k

theorem alloc_old {w : World} {o : Obj} {k : Nat} (hk : k < w.heap.size) : (w.alloc o).heap[k]? = w.heap[k]? := by
  show (w.heap.push o)[k]? = _
  rw [Array.getElem?_push, if_neg (by omega)]
theorem alloc_new {w : World} {o : Obj} : (w.alloc o).heap[w.heap.size]? = some o := by
  show (w.heap.push o)[w.heap.size]? = _
  rw [Array.getElem?_push, if_pos rfl]
theorem cell_old {w w' : World} {a : Addr} {v : Value} (hw : w'.heap[a.block]? = w.heap[a.block]?) (hc : w.cell? a = some v) : w'.cell? a = some v := by
  rw [World.cell?_of_block hw]; exact hc

/-- A new box. -/
def Sh.withBox (S : Sh) (b r : Nat) : Sh := { S with ρ := fun i => if i = b then some r else S.ρ i }

theorem newBox [Tabs P] (k : WR P S h w) {C : Array Value} {T : TypeId} {cs : List AVal} (hc : VRl S cs C.toList) :
    Step P S w (S.withBox h.length w.heap.size) (h ++ [.box cs]) (w.alloc (.cells C T)) ∧
      VR (S.withBox h.length w.heap.size) (.ptr h.length 0) (.pointer (some ⟨w.heap.size, 0, none⟩)) := by
  have hne : ∀ b r, S.ρ b = some r → b ≠ h.length := fun b r hb => by have := (k.lt hb).1; omega
  have hx : Ex S w.heap.size (S.withBox h.length w.heap.size) := by
    refine ⟨fun _ _ h => h, fun b r hb => ?_, fun t r c l ht => ⟨r, c, l, ht, .inr ⟨rfl, rfl, rfl⟩⟩, fun b r hb => ?_, fun t r c l ht => .inl ⟨c, l, ht⟩, fun _ _ h => .inl h, rfl⟩
    · simp only [Sh.withBox]; rw [if_neg (hne b r hb)]; exact hb
    · simp only [Sh.withBox] at hb
      split at hb
      · cases hb; exact .inr (Nat.le_refl _)
      · exact .inl hb
  refine ⟨⟨hx, ⟨rfl, rfl, rfl, by simp, fun i hi _ _ => alloc_old hi⟩, ?_⟩, .ptr _ _ _ (by simp [Sh.withBox])⟩
  constructor
  · intro a v ha
    exact ⟨cell_old (alloc_old (k.ltM ha)) (k.imm a v ha).1, (k.imm a v ha).2⟩
  · intro b cs' hb
    by_cases hlt : b < h.length
    · rw [List.getElem?_append_left hlt] at hb
      obtain ⟨r, C', T', h1, h2, h3, h4⟩ := k.box b cs' hb
      refine ⟨r, C', T', ?_, (alloc_old (k.lt h1).2).trans h2, h3.ext hx, h4⟩
      simp only [Sh.withBox]; rw [if_neg (by omega)]; exact h1
    · rw [List.getElem?_append_right (by omega)] at hb
      have : b = h.length := by
        have := (List.getElem?_eq_some_iff.1 hb).1; simp at this; omega
      subst this
      simp at hb; subst hb
      refine ⟨w.heap.size, C, T, by simp [Sh.withBox], alloc_new, hc.ext hx, fun o => ?_⟩
      cases hM : S.M ⟨w.heap.size, o, none⟩ with
      | none => exact hM
      | some v => have := k.ltM hM; simp at this
  · intro b len e hb
    by_cases hlt : b < h.length
    · rw [List.getElem?_append_left hlt] at hb
      obtain ⟨r, cap, C', i, h1, h2, h3⟩ := k.tok b len e hb
      exact ⟨r, cap, C', i, h1, (alloc_old (k.ltτ h1).2).trans h2, h3⟩
    · rw [List.getElem?_append_right (by omega)] at hb
      have := (List.getElem?_eq_some_iff.1 hb).1
      simp at this
      rw [show b - h.length = 0 by omega] at hb
      simp at hb
  · intro b r hb
    simp only [Sh.withBox] at hb
    split at hb
    · rename_i e; subst e; exact ⟨cs, by simp⟩
    · obtain ⟨cs', h1⟩ := k.ρdom b r hb
      exact ⟨cs', by rw [List.getElem?_append_left (k.lt hb).1]; exact h1⟩
  · intro b x hb
    obtain ⟨e, h1⟩ := k.τdom b x hb
    exact ⟨e, by rw [List.getElem?_append_left (k.ltτ hb).1]; exact h1⟩
  · intro b b' r hb hb'
    simp only [Sh.withBox] at hb hb'
    split at hb
    · cases hb
      split at hb'
      · omega
      · have := (k.lt hb').2; omega
    · split at hb'
      · cases hb'; have := (k.lt hb).2; omega
      · exact k.injρ b b' r hb hb'
  · intro b b' r c c' l l' hb hb'
    exact k.injτ b b' r c c' l l' hb hb'
  · intro b b' r c l hb hb'
    simp only [Sh.withBox] at hb
    split at hb
    · cases hb; have := (k.ltτ hb').2; omega
    · exact k.apart b b' r c l hb hb'
  · exact frz_step k hx ⟨rfl, rfl, rfl, by simp, fun i hi _ _ => alloc_old hi⟩
  · exact laid_step k hx

/-- A new block whose first m cells no longer change. -/
def Sh.withImm (S : Sh) (r : Nat) (X : List Value) : Sh := { S with M := fun a => if a.block = r ∧ a.spot = none then X[a.off]? else S.M a }

theorem withImm_ex [Tabs P] (k : WR P S h w) (X : List Value) : Ex S w.heap.size (S.withImm w.heap.size X) := by
  refine ⟨fun a v ha => ?_, fun b r hb => hb, fun t r c l ht => ⟨r, c, l, ht, .inr ⟨rfl, rfl, rfl⟩⟩, fun b r hb => .inl hb, fun t r c l ht => .inl ⟨c, l, ht⟩, fun a v ha => ?_, rfl⟩
  · simp only [Sh.withImm]
    have := k.ltM ha
    rw [if_neg (by omega)]; exact ha
  · simp only [Sh.withImm] at ha
    split at ha
    · rename_i hc; exact .inr (.inl (by omega))
    · exact .inl ha

theorem newImm [Tabs P] (k : WR P S h w) {C : Array Value} {T : TypeId} {X Y : List Value} (hC : C.toList = X ++ Y) :
    Step P S w (S.withImm w.heap.size X) h (w.alloc (.cells C T)) := by
  have hx := withImm_ex k X
  have hold : ∀ r, r < w.heap.size → ∀ o, (S.withImm w.heap.size X).M ⟨r, o, none⟩ = S.M ⟨r, o, none⟩ := fun r hr o => by
    simp only [Sh.withImm]; rw [if_neg (by simp; omega)]
  refine ⟨hx, ⟨rfl, rfl, rfl, by simp, fun i hi _ _ => alloc_old hi⟩, ?_⟩
  constructor
  · intro a v ha
    simp only [Sh.withImm] at ha
    split at ha
    · rename_i hc
      refine ⟨?_, hc.2⟩
      have : C[a.off]? = some v := by
        rw [← Array.getElem?_toList, hC, List.getElem?_append_left (List.getElem?_eq_some_iff.1 ha).1]; exact ha
      simp only [World.cell?, hc.1, alloc_new, hc.2, Option.isSome_none, Bool.false_eq_true, if_false, this]
    · exact ⟨cell_old (alloc_old (k.ltM ha)) (k.imm a v ha).1, (k.imm a v ha).2⟩
  · intro b cs' hb
    obtain ⟨r, C', T', h1, h2, h3, h4⟩ := k.box b cs' hb
    exact ⟨r, C', T', h1, (alloc_old (k.lt h1).2).trans h2, h3.ext hx, fun o => by rw [hold r (k.lt h1).2]; exact h4 o⟩
  · intro b len e hb
    obtain ⟨r, cap, C', i, h1, h2, h3, h4, h5, h6, h7, h8⟩ := k.tok b len e hb
    exact ⟨r, cap, C', i, h1, (alloc_old (k.ltτ h1).2).trans h2, h3, h4, h5, h6, h7, fun o ho => by rw [hold r (k.ltτ h1).2]; exact h8 o ho⟩
  · exact k.ρdom
  · exact k.τdom
  · exact k.injρ
  · exact k.injτ
  · exact k.apart
  · exact frz_step k hx ⟨rfl, rfl, rfl, by simp, fun i hi _ _ => alloc_old hi⟩
  · exact laid_step k hx

/-- A row of cells read as the elements of a slice. -/
def RowOf (S : Sh) (es : List (List AVal)) (sz : Nat) (X : List Value) : Prop :=
  X.length = es.length * sz ∧ (∀ c ∈ es, c.length = sz) ∧ (∀ c ∈ es, ∀ a ∈ c, pureA a = true) ∧
    ∀ (i : Nat) (c : List AVal) (j : Nat) (a : AVal), es[i]? = some c → c[j]? = some a → ∃ v, X[i * sz + j]? = some v ∧ VR S a v

theorem RowOf.nil (S : Sh) (sz : Nat) : RowOf S [] sz [] := ⟨by simp, by simp, by simp, fun i c j a hi => by simp at hi⟩
theorem RowOf.ext {S S' : Sh} {N : Nat} (hx : Ex S N S') {es : List (List AVal)} {sz : Nat} {X : List Value} (k : RowOf S es sz X) : RowOf S' es sz X :=
  ⟨k.1, k.2.1, k.2.2.1, fun i c j a hi hj => let ⟨v, h1, h2⟩ := k.2.2.2 i c j a hi hj; ⟨v, h1, h2.ext hx⟩⟩
theorem RowOf.append {es fs : List (List AVal)} {sz : Nat} {X Y : List Value} (k : RowOf S es sz X) (l : RowOf S fs sz Y) : RowOf S (es ++ fs) sz (X ++ Y) := by
  refine ⟨by simp [k.1, l.1, Nat.add_mul], fun c hc => ?_, fun c hc => ?_, fun i c j a hi hj => ?_⟩
  · rcases List.mem_append.1 hc with h | h
    · exact k.2.1 c h
    · exact l.2.1 c h
  · rcases List.mem_append.1 hc with h | h
    · exact k.2.2.1 c h
    · exact l.2.2.1 c h
  · by_cases hlt : i < es.length
    · rw [List.getElem?_append_left hlt] at hi
      obtain ⟨v, h1, h2⟩ := k.2.2.2 i c j a hi hj
      exact ⟨v, by rw [List.getElem?_append_left (List.getElem?_eq_some_iff.1 h1).1]; exact h1, h2⟩
    · rw [List.getElem?_append_right (by omega)] at hi
      obtain ⟨v, h1, h2⟩ := l.2.2.2 _ c j a hi hj
      refine ⟨v, ?_, h2⟩
      have : i * sz + j = X.length + ((i - es.length) * sz + j) := by
        rw [k.1]
        have : i = es.length + (i - es.length) := by omega
        rw [this, Nat.add_mul]
        simp
        omega
      rw [this, List.getElem?_append_right (by omega)]
      simpa using h1
theorem RowOf.one {es : List (List AVal)} {sz : Nat} {X : List Value} (k : RowOf S es sz X) (hsz : 0 < sz) : ∀ v ∈ X, v.oneCell' = true := by
  intro v hv
  obtain ⟨n, hn, rfl⟩ := List.getElem_of_mem hv
  have h1 : n / sz < es.length := by
    rw [Nat.div_lt_iff_lt_mul hsz, ← k.1]; exact hn
  have h2 : n % sz < (es[n / sz]).length := by
    rw [k.2.1 _ (List.getElem_mem h1)]; exact Nat.mod_lt _ hsz
  obtain ⟨v, h3, h4⟩ := k.2.2.2 (n / sz) _ (n % sz) _ (List.getElem?_eq_getElem h1) (List.getElem?_eq_getElem h2)
  rw [Nat.mul_comm, Nat.div_add_mod, List.getElem?_eq_getElem hn] at h3
  cases h3
  exact h4.one (k.2.2.1 _ (List.getElem_mem h1) _ (List.getElem_mem h2))

/-- The cells that a slice shows. -/
theorem VR.row [Tabs P] (k : WR P S h w) {es : List (List AVal)} {tk : Tk} {ad : Addr} {n cap sz : Nat} (hv : VR S (.slice es tk) (.slice (some ad) n cap)) (hh : headOk sz es = true) (hsz : 0 < sz) :
    ∃ X, RowOf S es sz X ∧ (∀ (j : Nat) (v : Value), X[j]? = some v → w.cell? (ad.add j) = some v) ∧
      (es ≠ [] → ∀ (j : Nat) (v : Value), X[j]? = some v → S.M ⟨ad.block, ad.off + j, none⟩ = some v) := by
  cases hv with
  | slice _ _ _ _ _ esz vs hn hc hcm hsp hs g1 hp g2 ht =>
  by_cases hne : es = []
  · subst hne
    exact ⟨[], .nil S sz, fun j v hj => by simp at hj, fun h => absurd rfl h⟩
  · have hesz := headOk_esz hs hh hne
    subst hesz
    have hspot := hsp hne
    have hM : ∀ (j : Nat) (v : Value), ((List.range (es.length * esz)).map vs)[j]? = some v → S.M ⟨ad.block, ad.off + j, none⟩ = some v := by
      intro q v hq
      rw [List.getElem?_map] at hq
      by_cases hlt : q < es.length * esz
      · rw [List.getElem?_range hlt] at hq
        simp at hq; subst hq
        have h1 : q / esz < es.length := by rw [Nat.div_lt_iff_lt_mul hsz]; exact hlt
        have h2 : q % esz < (es[q / esz]).length := by rw [hs _ (List.getElem_mem h1)]; exact Nat.mod_lt _ hsz
        have := g1 (q / esz) _ (q % esz) _ (List.getElem?_eq_getElem h1) (List.getElem?_eq_getElem h2)
        rwa [Nat.mul_comm, Nat.div_add_mod] at this
      · rw [List.getElem?_eq_none (by simp; omega)] at hq; simp at hq
    refine ⟨(List.range (es.length * esz)).map vs, ⟨by simp, hs, hp, fun i c j a hi hj => ⟨vs (i * esz + j), ?_, g2 i c j a hi hj⟩⟩, ?_, fun _ => hM⟩
    · have h1 := (List.getElem?_eq_some_iff.1 hi).1
      have h2 := (List.getElem?_eq_some_iff.1 hj).1
      have h3 := hs c (List.mem_of_getElem? hi)
      have hlt : i * esz + j < es.length * esz := by
        have : (i + 1) * esz ≤ es.length * esz := Nat.mul_le_mul_right _ h1
        rw [Nat.add_mul] at this
        omega
      rw [List.getElem?_map, List.getElem?_range hlt]
      rfl
    · intro q v hq
      have := hM q v hq
      rw [addr_add ad q (fun _ => hspot)]
      exact (k.imm _ _ this).1

/-- A slice out of cells that no longer change. -/
theorem VR.made {es : List (List AVal)} {tk : Tk} {r n cap sz : Nat} {X : List Value} (hr : RowOf S es sz X) (hM : ∀ (j : Nat) (v : Value), X[j]? = some v → S.M ⟨r, j, none⟩ = some v)
    (hn : es.length = n) (hc : n ≤ cap) (hcm : cap ≤ maxLen) (ht : TkOk S tk n cap ⟨r, 0, none⟩) : VR S (.slice es tk) (.slice (some ⟨r, 0, none⟩) n cap) := by
  refine .slice es tk ⟨r, 0, none⟩ n cap sz (fun j => X.getD j .nilFunc) hn hc hcm (fun _ => rfl) hr.2.1 ?_ hr.2.2.1 ?_ ht
  · intro i c j a hi hj
    obtain ⟨v, h1, h2⟩ := hr.2.2.2 i c j a hi hj
    simp only [Nat.zero_add, List.getD_eq_getElem?_getD, h1, Option.getD_some]
    exact hM _ _ h1
  · intro i c j a hi hj
    obtain ⟨v, h1, h2⟩ := hr.2.2.2 i c j a hi hj
    simp only [List.getD_eq_getElem?_getD, h1, Option.getD_some]
    exact h2
end Go.Ab
