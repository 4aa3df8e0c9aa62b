/- Soundness of the single operations: fields, elements, interfaces, building. -/
import Derived.Test.YtnmejllfnndcbaaGreatDoorAbOp3
namespace Go.Ab
variable {P : Program} {S : Sh} {h : AHeap} {w : World}

theorem fieldPlaceA_sound {s : TypeId} {i off : Nat} {ft : TypeId} (e : fieldPlaceA P s i = some (off, ft)) :
    ∃ fs f n, P.underlying s = some (.struct fs) ∧ fs[i]? = some f ∧ f.offset = off ∧ f.type = ft ∧ sizeA P ft = some (n + 1) := by
  unfold fieldPlaceA at e
  split at e
  · rename_i fs hu
    split at e
    · rename_i f hf
      split at e
      · rename_i n hn; cases e; exact ⟨fs, f, n, hu, hf, rfl, rfl, hn⟩
      · cases e
    · cases e
  · cases e

theorem fieldAt_sound {s : TypeId} {i off : Nat} {ft : TypeId} {r o : Nat} (e : fieldPlaceA P s i = some (off, ft)) :
    (Instr.fieldAt s (.pointer (some ⟨r, o, none⟩)) i).run P w = .ok (.pointer (some ⟨r, o + off, none⟩)) w := by
  obtain ⟨fs, f, n, hu, hf, rfl, rfl, hn⟩ := fieldPlaceA_sound e
  simp [Instr.fieldAt, run_underlying hu, hf, Instr.sureAddr, fieldPlace, run_sizeA hn, Addr.add_lit]

theorem field_sound {t : TypeId} {i off : Nat} {ft : TypeId} {cs : List AVal} {x : Array Value} {u : AVal} (e : fieldPlaceA P t i = some (off, ft)) (hx : VRl S cs x.toList)
    (e2 : partA P ft cs off = some u) : ∃ v, (Instr.field t (.agg x) i).run P w = .ok v w ∧ VR S u v := by
  obtain ⟨fs, f, n, hu, hf, rfl, rfl, hn⟩ := fieldPlaceA_sound e
  obtain ⟨v, hv, hr⟩ := partA_part (P := P) (w := w) hx e2
  exact ⟨v, by simp [Instr.field, run_underlying hu, hf, asAgg, hv], hr⟩

theorem indexAddr_slice {t e : TypeId} {es : List (List AVal)} {tk : Tk} {vx : Value} {k : IntKind} {n : Int} {cs : List AVal} (hu : P.underlying t = some (.slice e))
    (hx : VR S (.slice es tk) vx) (hc : es[n.toNat]? = some cs) (hs : sizeA P e = some cs.length) (h0 : 0 ≤ n) :
    ∃ v, (Instr.indexAt t vx (.int k n)).run P w = .ok v w ∧ VR S (.eptr cs 0) v := by
  cases hx with
  | slice _ _ ad m cap esz vs hn hc' hcm hsp hsz g1 hp g2 ht =>
    have hlt : n.toNat < es.length := (List.getElem?_eq_some_iff.1 hc).1
    have hmem : cs ∈ es := List.mem_of_getElem? hc
    have hes : es ≠ [] := by intro e; subst e; simp at hlt
    have hl : esz = cs.length := (hsz cs hmem).symm
    subst hl
    have hadd : ad.add (n.toNat * cs.length) = ⟨ad.block, ad.off + n.toNat * cs.length, none⟩ := addr_add ad _ (fun _ => hsp hes)
    have hb : 0 ≤ n ∧ n < (m : Int) := ⟨h0, by omega⟩
    refine ⟨.pointer (some ⟨ad.block, ad.off + n.toNat * cs.length + 0, none⟩), ?_, ?_⟩
    · simp [Instr.indexAt, asIntOf, run_underlying hu, hb, run_sizeA hs, hadd]
    · refine .eptr cs 0 ad.block (ad.off + n.toNat * cs.length) (fun j => vs (n.toNat * cs.length + j)) ?_ (hp cs hmem) ?_
      · intro j a hj
        rw [Nat.add_assoc]
        exact g1 n.toNat cs j a hc hj
      · intro j a hj
        exact g2 n.toNat cs j a hc hj
  | snil _ htk => simp at hc

theorem indexAddr_array {t e : TypeId} {len s : Nat} {r o : Nat} {k : IntKind} {n : Int} (hu : P.underlying t = some (.array len e)) (hs : sizeA P e = some s) (h0 : 0 ≤ n) (h1 : n < len) :
    (Instr.indexAt t (.pointer (some ⟨r, o, none⟩)) (.int k n)).run P w = .ok (.pointer (some ⟨r, o + n.toNat * s, none⟩)) w := by
  have hb : 0 ≤ n ∧ n < (len : Int) := ⟨h0, h1⟩
  simp [Instr.indexAt, asIntOf, run_underlying hu, Instr.sureAddr, hb, run_sizeA hs, Addr.add_lit]

theorem index_string {t : TypeId} {s : List UInt8} {vx : Value} {k : IntKind} {n : Int} {b : UInt8} (hu : P.underlying t = some .string) (hx : VR S (.str s) vx) (hb : s[n.toNat]? = some b) (h0 : 0 ≤ n) :
    (Instr.index t vx (.int k n)).run P w = .ok (.int .u8 b.toNat) w := by
  cases hx with
  | str bs _ e =>
    subst e
    have : bs[n.toNat]? = some b := by
      have : bs[n.toNat]? = bs.data[n.toNat]? := rfl
      rw [this]; rw [Array.getElem?_toList] at hb; exact hb
    simp [Instr.index, asIntOf, run_underlying hu, h0, this]

theorem index_array {t e : TypeId} {len s : Nat} {cs : List AVal} {x : Array Value} {k : IntKind} {n : Int} {u : AVal} (hu : P.underlying t = some (.array len e)) (hs : sizeA P e = some s)
    (hx : VRl S cs x.toList) (h0 : 0 ≤ n) (h1 : n < len) (e2 : partA P e cs (n.toNat * s) = some u) :
    ∃ v, (Instr.index t (.agg x) (.int k n)).run P w = .ok v w ∧ VR S u v := by
  have hb : 0 ≤ n ∧ n < (len : Int) := ⟨h0, h1⟩
  obtain ⟨v, hv, hr⟩ := partA_part (P := P) (w := w) hx e2
  exact ⟨v, by simp [Instr.index, asIntOf, run_underlying hu, hb, run_sizeA hs, hv], hr⟩

theorem setCells_eq : ∀ {cs : List AVal} {n : Nat} {vs r : List AVal}, setCells cs n vs = some r → n + vs.length ≤ cs.length ∧ r = cs.take n ++ vs ++ cs.drop (n + vs.length)
  | cs, 0, vs, r, e => by
    cases cs with
    | nil =>
      simp only [setCells] at e
      split at e
      · rename_i hl; cases e; exact ⟨by omega, by simp⟩
      · cases e
    | cons c cs =>
      simp only [setCells] at e
      split at e
      · rename_i hl; cases e; exact ⟨by omega, by simp⟩
      · cases e
  | [], n + 1, vs, r, e => by simp [setCells] at e
  | c :: cs, n + 1, vs, r, e => by
    simp only [setCells] at e
    cases hs : setCells cs n vs with
    | none => simp [hs] at e
    | some q =>
      simp [hs] at e; subst e
      obtain ⟨h1, h2⟩ := setCells_eq hs
      refine ⟨by simp; omega, ?_⟩
      subst h2
      rw [show n + 1 + vs.length = (n + vs.length) + 1 by omega]
      simp

theorem foldl_set : ∀ (vs : List Value) (off k : Nat) (cells : Array Value), off + k + vs.length ≤ cells.size →
    ((vs.zipIdx k).foldl (fun (cs : Array Value) (p : Value × Nat) => cs.setIfInBounds (off + p.2) p.1) cells).toList = cells.toList.take (off + k) ++ vs ++ cells.toList.drop (off + k + vs.length)
  | [], off, k, cells, hl => by simp
  | v :: vs, off, k, cells, hl => by
    simp only [List.length_cons] at hl
    simp only [List.zipIdx_cons, List.foldl_cons]
    rw [foldl_set vs off (k + 1) _ (by simp; omega)]
    simp only [Array.toList_setIfInBounds, List.length_cons]
    have h1 : (cells.toList.set (off + k) v).take (off + (k + 1)) = cells.toList.take (off + k) ++ [v] := by
      apply List.ext_getElem?
      intro i
      by_cases hi : i < off + k
      · rw [List.getElem?_take_of_lt (by omega), List.getElem?_set_ne (by omega), List.getElem?_append_left (by simp; omega), List.getElem?_take_of_lt hi]
      · by_cases h2 : i = off + k
        · subst h2
          rw [List.getElem?_take_of_lt (by omega), List.getElem?_set_self (by simp; omega), List.getElem?_append_right (by rw [List.length_take, Array.length_toList]; omega)]
          rw [List.length_take, Array.length_toList, Nat.min_eq_left (by omega)]
          simp
        · rw [List.getElem?_eq_none (by simp; omega), List.getElem?_eq_none (by simp; omega)]
    have h2 : (cells.toList.set (off + k) v).drop (off + (k + 1) + vs.length) = cells.toList.drop (off + k + (vs.length + 1)) := by
      apply List.ext_getElem?
      intro i
      rw [List.getElem?_drop, List.getElem?_drop, List.getElem?_set_ne (by omega)]
      congr 1
      omega
    rw [h1, h2]
    simp

theorem fillA_sound {pa : Nat → Option (Nat × Nat)} {pv : Nat → Option (Nat × Nat)} (hp : ∀ i x, pa i = some x → pv i = some x) :
    ∀ {us : List (Nat × AVal)} {vs : List (Nat × Value)} {cs r : List AVal} {x : Array Value}, us.map Prod.fst = vs.map Prod.fst → VRl S (us.map Prod.snd) (vs.map Prod.snd) → VRl S cs x.toList →
      fillA pa cs us = some r → ∃ y : Array Value, Instr.fill pv x vs = some y ∧ VRl S r y.toList
  | [], vs, cs, r, x, hf, _, hx, e => by
    cases vs with
    | nil => cases e; exact ⟨x, rfl, hx⟩
    | cons v vs => simp at hf
  | (i, u) :: us, vs, cs, r, x, hf, hs, hx, e => by
    cases vs with
    | nil => simp at hf
    | cons v vs =>
      obtain ⟨i', v⟩ := v
      simp only [List.map_cons, List.cons.injEq] at hf
      obtain ⟨rfl, hf⟩ := hf
      simp only [List.map_cons] at hs
      have hv := hs.head.cells
      unfold fillA at e
      split at e
      · cases e
      · rename_i off size hpl
        split at e
        · rename_i hl
          split at e
          · rename_i cs' hc
            obtain ⟨h1, h2⟩ := setCells_eq hc
            have hlv : v.cells.size = u.cells.length := by rw [hv.1, Array.length_toList]
            have hlx : x.size = cs.length := by rw [hx.1, Array.length_toList]
            have hfold := foldl_set v.cells.toList off 0 x (by simp; omega)
            let y := v.cells.zipIdx.foldl (fun (cs : Array Value) (p : Value × Nat) => cs.setIfInBounds (off + p.2) p.1) x
            have hy : y.toList = x.toList.take off ++ v.cells.toList ++ x.toList.drop (off + u.cells.length) := by
              have : y = (v.cells.toList.zipIdx 0).foldl (fun (cs : Array Value) (p : Value × Nat) => cs.setIfInBounds (off + p.2) p.1) x := by
                show v.cells.zipIdx.foldl _ _ = _
                rw [← Array.foldl_toList, Array.toList_zipIdx]
              rw [this, hfold]
              simp [hlv]
            have hr : VRl S cs' y.toList := by
              rw [hy, h2]
              exact ((hx.take _).append hv).append (hx.drop _)
            obtain ⟨z, hz, hzr⟩ := fillA_sound hp hf hs.tail hr e
            refine ⟨z, ?_, hzr⟩
            unfold Instr.fill
            simp only [hp _ _ hpl]
            rw [if_neg]
            · exact hz
            · simp; omega
          · cases e
        · cases e

theorem run_places (w : World) : ∀ (fs : List Field), (∀ f ∈ fs, (P.info? f.type).isSome = true) →
    (fs.mapM (fun f => do pure (f.offset, ← sizeOf f.type) : Field → Sem (Nat × Nat))).run P w = .ok (fs.map fun f => (f.offset, P.cellsOf f.type)) w
  | [], _ => rfl
  | f :: fs, hf => by
    have h1 := hf f (by simp)
    obtain ⟨i, hi⟩ := Option.isSome_iff_exists.1 h1
    have ih := run_places w fs (fun g hg => hf g (by simp [hg]))
    simp [List.mapM_cons, sizeOf, typeInfo, hi, Program.cellsOf] at ih ⊢
    rw [ih]
    simp

theorem build_struct {t : TypeId} {fs : Array Field} {z : List AVal} {ps : Array (Nat × Operand)} {us : List (Nat × AVal)} {ts : List AVal} {a : Act} {r : List AVal} (ht : VRl S ts a.tmps.toList)
    (hz : zeroA P t = some (.agg z)) (hu : P.underlying t = some (.struct fs)) (hp : partsA ts ps.toList = some us) (hall : fs.all (fun f => (P.info? f.type).isSome) = true)
    (e : fillA (fun i => match fs[i]? with | some f => (sizeA P f.type).map fun s => (f.offset, s) | none => none) z us = some r) :
    ∃ v, (Instr.build t (ps.map fun (i, x) => (i, a.eval x))).run P w = .ok v w ∧ VR S (.agg r) v := by
  obtain ⟨vz, hvz, hrz⟩ := run_zeroA hz w S
  obtain ⟨x, rfl, hx⟩ := hrz.inv_agg
  obtain ⟨h1, h2⟩ := partsA_sound ht hp
  have hpl := run_places (P := P) w fs.toList (fun f hf => by
    rw [Array.all_eq_true_iff_forall_mem] at hall
    exact hall f (by simpa using hf))
  have hmap : (fs.mapM (fun f => do pure (f.offset, ← sizeOf f.type) : Field → Sem (Nat × Nat))).run P w = .ok (fs.map fun f => (f.offset, P.cellsOf f.type)) w := by
    rw [Array.mapM_eq_mapM_toList, Sem.run_map, hpl]
    simp only [Result.andThen_ok]
    congr 1
    apply Array.ext'
    simp
  obtain ⟨y, hy, hyr⟩ := fillA_sound (S := S) (pa := fun i => match fs[i]? with | some f => (sizeA P f.type).map fun s => (f.offset, s) | none => none)
    (pv := fun i => (fs.map fun f => (f.offset, P.cellsOf f.type))[i]?) (fun i q hq => by
      cases hf : fs[i]? with
      | none => simp [hf] at hq
      | some f =>
        simp only [hf] at hq
        simp only [Array.getElem?_map, hf, Option.map_some]
        cases hs : sizeA P f.type with
        | none => simp [hs] at hq
        | some s =>
          simp [hs] at hq
          obtain ⟨i, hi, rfl⟩ := sizeA_info hs
          simp [Program.cellsOf, hi, hq]) (vs := (ps.map fun (i, x) => (i, a.eval x)).toList) (x := x) (by
        rw [h1]; simp) (by rw [Array.toList_map, List.map_map]; exact h2) hx e
  refine ⟨.agg y, ?_, by have := VR.agg' hyr; simpa using this⟩
  simp only [Instr.build, Sem.run_bind, hvz, Result.andThen_ok, run_underlying hu, hmap]
  rw [show (Value.agg x).cells = x from rfl, hy]
  rfl

theorem build_array {t el : TypeId} {n s : Nat} {z : List AVal} {ps : Array (Nat × Operand)} {us : List (Nat × AVal)} {ts : List AVal} {a : Act} {r : List AVal} (ht : VRl S ts a.tmps.toList)
    (hz : zeroA P t = some (.agg z)) (hu : P.underlying t = some (.array n el)) (hp : partsA ts ps.toList = some us) (hs : sizeA P el = some s)
    (e : fillA (fun i => some (i * s, s)) z us = some r) :
    ∃ v, (Instr.build t (ps.map fun (i, x) => (i, a.eval x))).run P w = .ok v w ∧ VR S (.agg r) v := by
  obtain ⟨vz, hvz, hrz⟩ := run_zeroA hz w S
  obtain ⟨x, rfl, hx⟩ := hrz.inv_agg
  obtain ⟨h1, h2⟩ := partsA_sound ht hp
  obtain ⟨y, hy, hyr⟩ := fillA_sound (S := S) (pa := fun i => some (i * s, s)) (pv := fun i => some (i * s, s)) (fun i q hq => hq) (vs := (ps.map fun (i, x) => (i, a.eval x)).toList) (x := x) (by
        rw [h1]; simp) (by rw [Array.toList_map, List.map_map]; exact h2) hx e
  refine ⟨.agg y, ?_, by have := VR.agg' hyr; simpa using this⟩
  simp only [Instr.build, Sem.run_bind, hvz, Result.andThen_ok, run_underlying hu, run_sizeA hs]
  rw [show (Value.agg x).cells = x from rfl, hy]
  rfl
end Go.Ab
