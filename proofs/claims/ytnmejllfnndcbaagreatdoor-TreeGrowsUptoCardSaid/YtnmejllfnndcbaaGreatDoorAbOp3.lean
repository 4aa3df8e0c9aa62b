/- Soundness of the single operations: slices, indices, fields. -/
import Derived.Test.YtnmejllfnndcbaaGreatDoorAbOp2
namespace Go.Ab
variable {P : Program} {S : Sh} {h : AHeap} {w : World}

theorem bound_sound {v : AVal} {vv : Value} {max i : Nat} (hv : VR S v vv) (e : bound v max = some i) {y : Nat} (hy : max ≤ y) (code : BoundsCode) :
    (Instr.sliceBound vv y code).run P w = .ok i w ∧ i ≤ max := by
  unfold bound at e
  split at e
  · rename_i k n
    cases hv
    split at e
    · rename_i hc
      cases e
      refine ⟨?_, by omega⟩
      simp only [Instr.sliceBound, asIntOf, Sem.run_bind, Sem.run_pure, Result.andThen_ok, Sem.run_ite]
      rw [if_pos ⟨hc.1, by omega⟩]
    · cases e
  · cases e

theorem optA_sound {ts : List AVal} {a : Act} (ht : VRl S ts a.tmps.toList) {x : Option Operand} {r : Option AVal} (e : optA ts x = some r) :
    (r = none ∧ x.map a.eval = none) ∨ ∃ u v, r = some u ∧ x.map a.eval = some v ∧ VR S u v := by
  cases x with
  | none => cases e; exact .inl ⟨rfl, rfl⟩
  | some o =>
    simp only [optA] at e
    cases hc : constA o ts with
    | none => simp [hc] at e
    | some u => simp [hc] at e; subst e; exact .inr ⟨u, _, rfl, rfl, constA_sound ht hc⟩

theorem headOk_esz {es : List (List AVal)} {esz s : Nat} (hsz : ∀ c ∈ es, c.length = esz) (hh : headOk s es = true) (hne : es ≠ []) : esz = s := by
  cases es with
  | nil => exact absurd rfl hne
  | cons c r => have := hsz c (by simp); simp [headOk] at hh; omega

theorem addr_add (ad : Addr) (n : Nat) (h : n = 0 → ad.spot = none) : ad.add n = ⟨ad.block, ad.off + n, none⟩ := by
  unfold Addr.add
  split
  · rename_i hn; subst hn; have := h rfl; cases ad; simp_all
  · rfl

/-- A piece of a slice. -/
theorem VR.piece {es : List (List AVal)} {tk tk' : Tk} {ad : Addr} {n cap s l hh m : Nat} (hv : VR S (.slice es tk) (.slice (some ad) n cap)) (hs : headOk s es = true)
    (hl : l ≤ hh) (h1 : hh ≤ n) (hm : hh ≤ m) (hmc : m ≤ cap)
    (htk : ∀ ad', (l = 0 ∧ hh = n ∧ m = cap → ad' = ad) → TkOk S tk' (hh - l) (m - l) ad') :
    VR S (.slice ((es.drop l).take (hh - l)) tk') (.slice (some (if m = l then ad else ad.add (l * s))) (hh - l) (m - l)) := by
  cases hv with
  | slice _ _ _ _ _ esz vs hn hc hcm hsp hsz g1 hp g2 ht =>
  by_cases hne : hh = l
  · subst hne
    have e0 : (es.drop hh).take (hh - hh) = [] := by simp
    rw [e0]
    refine .slice [] tk' _ _ _ esz vs (by simp) (by omega) (by omega) (fun h => absurd rfl h) (by simp) (fun i c j a hi => by simp at hi) (by simp) (fun i c j a hi => by simp at hi) (htk _ ?_)
    rintro ⟨rfl, h2, h3⟩
    split
    · rfl
    · simp [Addr.add]
  · have hes : es ≠ [] := by intro e; subst e; simp at hn; omega
    have hspot := hsp hes
    have hesz := headOk_esz hsz hs hes
    subst hesz
    rw [if_neg (by omega)]
    have hadd : ad.add (l * esz) = ⟨ad.block, ad.off + l * esz, none⟩ := addr_add ad _ (fun _ => hspot)
    have hget : ∀ (i : Nat) (c : List AVal), ((es.drop l).take (hh - l))[i]? = some c → es[l + i]? = some c := by
      intro i c hi
      rw [List.getElem?_take] at hi
      split at hi
      · rw [List.getElem?_drop] at hi; exact hi
      · cases hi
    have hmem : ∀ c ∈ (es.drop l).take (hh - l), c ∈ es := fun c hc => List.mem_of_mem_drop (List.mem_of_mem_take hc)
    have hidx : ∀ i j, ad.off + l * esz + (i * esz + j) = ad.off + ((l + i) * esz + j) := by intro i j; rw [Nat.add_mul]; omega
    have ht' := htk (ad.add (l * esz)) (by rintro ⟨rfl, _, _⟩; simp [Addr.add])
    rw [hadd] at ht' ⊢
    refine .slice _ tk' _ _ _ esz (fun k => vs (l * esz + k)) (by simp; omega) (by omega) (by omega) (fun _ => rfl) (fun c hc => hsz c (hmem c hc)) ?_ (fun c hc => hp c (hmem c hc)) ?_ ht'
    · intro i c j a hi hj
      have := g1 (l + i) c j a (hget i c hi) hj
      show S.M ⟨ad.block, ad.off + l * esz + (i * esz + j), none⟩ = some (vs (l * esz + (i * esz + j)))
      rw [hidx, show l * esz + (i * esz + j) = (l + i) * esz + j by rw [Nat.add_mul]; omega]
      exact this
    · intro i c j a hi hj
      have := g2 (l + i) c j a (hget i c hi) hj
      show VR S a (vs (l * esz + (i * esz + j)))
      rw [show l * esz + (i * esz + j) = (l + i) * esz + j by rw [Nat.add_mul]; omega]
      exact this

theorem run_sliceBounds {b : Bool} {len cap : Nat} {lo hi mx : Option Value} {l hh m : Nat}
    (hm : (mx = none ∧ m = cap) ∨ ∃ v, mx = some v ∧ ∀ c, (Instr.sliceBound v cap c).run P w = .ok m w)
    (hh' : (hi = none ∧ mx = none ∧ hh = len) ∨ ∃ v, hi = some v ∧ ∀ c, (Instr.sliceBound v m c).run P w = .ok hh w)
    (hl : (lo = none ∧ l = 0) ∨ ∃ v, lo = some v ∧ ∀ c, (Instr.sliceBound v hh c).run P w = .ok l w) :
    (Instr.sliceBounds b len cap lo hi mx).run P w = .ok (l, hh, m) w := by
  unfold Instr.sliceBounds
  rcases hm with ⟨rfl, rfl⟩ | ⟨vm, rfl, hm⟩
  · rcases hh' with ⟨rfl, _, rfl⟩ | ⟨vh, rfl, hh'⟩
    · rcases hl with ⟨rfl, rfl⟩ | ⟨vl, rfl, hl⟩
      · simp
      · simp [hl]
    · rcases hl with ⟨rfl, rfl⟩ | ⟨vl, rfl, hl⟩
      · simp [hh']
      · simp [hl, hh']
  · rcases hh' with ⟨rfl, h0, rfl⟩ | ⟨vh, rfl, hh'⟩
    · cases h0
    · rcases hl with ⟨rfl, rfl⟩ | ⟨vl, rfl, hl⟩
      · simp [hm, hh']
      · simp [hm, hl, hh']

theorem sliceA_sound {t : TypeId} {x : AVal} {vx : Value} {lo hi mx : Option AVal} {vlo vhi vmx : Option Value} {u : AVal} (hx : VR S x vx)
    (hlo : (lo = none ∧ vlo = none) ∨ ∃ u v, lo = some u ∧ vlo = some v ∧ VR S u v)
    (hhi : (hi = none ∧ vhi = none) ∨ ∃ u v, hi = some u ∧ vhi = some v ∧ VR S u v)
    (hmx : (mx = none ∧ vmx = none) ∨ ∃ u v, mx = some u ∧ vmx = some v ∧ VR S u v)
    (e : sliceA P t x lo hi mx = some u) : ∃ v, (Instr.sliceAt t vx vlo vhi vmx).run P w = .ok v w ∧ VR S u v := by
  unfold sliceA at e
  split at e
  · rename_i s hu
    cases hx with
    | str bs _ hb =>
    have hlen := str_length hb
    rcases hmx with ⟨rfl, rfl⟩ | ⟨um, vm, rfl, rfl, hm⟩
    · simp only at e
      split at e
      · cases e
      · rename_i hh hhh
        split at e
        · cases e
        · rename_i l hl
          cases e
          have H : (hh ≤ s.length) ∧ ((vhi = none ∧ (none : Option Value) = none ∧ hh = bs.size) ∨ ∃ v, vhi = some v ∧ ∀ c, (Instr.sliceBound v bs.size c).run P w = .ok hh w) := by
            rcases hhi with ⟨rfl, rfl⟩ | ⟨uh, vh, rfl, rfl, hv⟩
            · simp at hhh; subst hhh; exact ⟨Nat.le_refl _, .inl ⟨rfl, rfl, hlen⟩⟩
            · simp only at hhh
              exact ⟨(bound_sound (P := P) (w := w) hv hhh (y := s.length) (Nat.le_refl _) .index).2, .inr ⟨vh, rfl, fun c => (bound_sound hv hhh (by omega) c).1⟩⟩
          have Lw : (l ≤ hh) ∧ ((vlo = none ∧ l = 0) ∨ ∃ v, vlo = some v ∧ ∀ c, (Instr.sliceBound v hh c).run P w = .ok l w) := by
            rcases hlo with ⟨rfl, rfl⟩ | ⟨ul, vl, rfl, rfl, hv⟩
            · simp at hl; subst hl; exact ⟨Nat.zero_le _, .inl ⟨rfl, rfl⟩⟩
            · simp only at hl
              exact ⟨(bound_sound (P := P) (w := w) hv hl (y := hh) (Nat.le_refl _) .index).2, .inr ⟨vl, rfl, fun c => (bound_sound hv hl (Nat.le_refl _) c).1⟩⟩
          have := run_sliceBounds (P := P) (w := w) (b := false) (len := bs.size) (cap := bs.size) (lo := vlo) (hi := vhi) (mx := none) (l := l) (hh := hh) (m := bs.size) (.inl ⟨rfl, rfl⟩) H.2 Lw.2
          refine ⟨.string (bs.extract l hh), ?_, .str _ _ (by subst hb; simp [List.extract_eq_take_drop])⟩
          simp [Instr.sliceAt, Instr.slice, run_underlying hu, this]
    · simp at e
  · rename_i el es tk hu
    split at e
    · cases e
    · rename_i m hm
      split at e
      · cases e
      · rename_i hh hhh
        split at e
        · cases e
        · rename_i l hl
          split at e
          · rename_i sz hsz
            split at e
            · rename_i hho
              cases e
              have key : ∀ (A : Option Addr) (cap : Nat), es.length ≤ cap → ∃ m' : Nat, (Instr.sliceBounds true es.length cap vlo vhi vmx).run P w = .ok (l, hh, m') w ∧ l ≤ hh ∧ hh ≤ es.length ∧ hh ≤ m' ∧ m' ≤ cap ∧
                  ((m = none ∧ m' = cap) ∨ m = some m') := by
                intro A cap hcap
                have Hm : ∃ m' : Nat, ((vmx = none ∧ m' = cap) ∨ ∃ v, vmx = some v ∧ ∀ c, (Instr.sliceBound v cap c).run P w = .ok m' w) ∧ m' ≤ cap ∧ m.getD es.length ≤ m' ∧ ((mx = none ∧ m = none ∧ m' = cap) ∨ (mx ≠ none ∧ m = some m')) := by
                  rcases hmx with ⟨rfl, rfl⟩ | ⟨um, vm, rfl, rfl, hv⟩
                  · simp at hm; subst hm
                    exact ⟨cap, .inl ⟨rfl, rfl⟩, Nat.le_refl _, by simpa using hcap, .inl ⟨rfl, rfl, rfl⟩⟩
                  · simp only at hm
                    cases hb : bound um es.length with
                    | none => simp [hb] at hm
                    | some m' =>
                      simp [hb] at hm; subst hm
                      exact ⟨m', .inr ⟨vm, rfl, fun c => (bound_sound hv hb hcap c).1⟩, Nat.le_trans (bound_sound (P := P) (w := w) hv hb (y := es.length) (Nat.le_refl _) .index).2 hcap, by simp, .inr ⟨by simp, rfl⟩⟩
                obtain ⟨m', g1, g2, g3, g4⟩ := Hm
                have hml : m.getD es.length ≤ es.length := by
                  rcases g4 with ⟨_, rfl, _⟩ | ⟨hx, rfl⟩
                  · simp
                  · rcases hmx with ⟨rfl, _⟩ | ⟨um, vm, rfl, rfl, hv⟩
                    · exact absurd rfl hx
                    · simp only at hm
                      cases hb : bound um es.length with
                      | none => simp [hb] at hm
                      | some q => simp [hb] at hm; subst hm; exact (bound_sound (P := P) (w := w) hv hb (y := es.length) (Nat.le_refl _) .index).2
                have H : (hh ≤ m.getD es.length) ∧ ((vhi = none ∧ vmx = none ∧ hh = es.length) ∨ ∃ v, vhi = some v ∧ ∀ c, (Instr.sliceBound v m' c).run P w = .ok hh w) := by
                  rcases hhi with ⟨rfl, rfl⟩ | ⟨uh, vh, rfl, rfl, hv⟩
                  · simp only at hhh
                    rcases g4 with ⟨rfl, rfl, rfl⟩ | ⟨_, rfl⟩
                    · simp at hhh; subst hhh
                      refine ⟨by simp, .inl ⟨rfl, ?_, rfl⟩⟩
                      rcases hmx with ⟨_, rfl⟩ | ⟨um, vm, h0, _⟩
                      · rfl
                      · cases h0
                    · simp at hhh
                  · simp only at hhh
                    have hb := bound_sound (P := P) (w := w) hv hhh (y := m') g3
                    exact ⟨(hb .index).2, .inr ⟨vh, rfl, fun c => (hb c).1⟩⟩
                have Lw : (l ≤ hh) ∧ ((vlo = none ∧ l = 0) ∨ ∃ v, vlo = some v ∧ ∀ c, (Instr.sliceBound v hh c).run P w = .ok l w) := by
                  rcases hlo with ⟨rfl, rfl⟩ | ⟨ul, vl, rfl, rfl, hv⟩
                  · simp at hl; subst hl; exact ⟨Nat.zero_le _, .inl ⟨rfl, rfl⟩⟩
                  · simp only at hl
                    exact ⟨(bound_sound (P := P) (w := w) hv hl (y := hh) (Nat.le_refl _) .index).2, .inr ⟨vl, rfl, fun c => (bound_sound hv hl (Nat.le_refl _) c).1⟩⟩
                refine ⟨m', run_sliceBounds g1 H.2 Lw.2, Lw.1, by omega, by omega, g2, ?_⟩
                rcases g4 with ⟨_, h1, h2⟩ | ⟨_, h1⟩
                · exact .inl ⟨h1, h2⟩
                · exact .inr h1
              cases hx with
              | slice _ _ ad n cap esz vs hn hc hcm hsp hsz' g1 hp g2 ht =>
                obtain ⟨m', hr, k1, k2, k3, k4, k5⟩ := key (some ad) cap (by omega)
                have hv : VR S (.slice es tk) (.slice (some ad) n cap) := .slice es tk ad n cap esz vs hn hc hcm hsp hsz' g1 hp g2 ht
                subst hn
                refine ⟨_, ?_, hv.piece (tk' := sliceTk tk l hh es.length m) hho k1 k2 k3 k4 ?_⟩
                · simp [Instr.sliceAt, Instr.slice, run_underlying hu, hr, run_sizeA hsz]
                  split <;> rfl
                · intro ad' hb
                  unfold sliceTk
                  rcases k5 with ⟨rfl, rfl⟩ | rfl
                  · simp only
                    split
                    · rename_i hc0
                      have := hb ⟨hc0.1, hc0.2, rfl⟩
                      subst this
                      rw [hc0.1, hc0.2]; simpa using ht
                    · split
                      · rename_i hc1
                        cases tk with
                        | full => simp only [TkOk] at ht ⊢; omega
                        | free => trivial
                        | own t => trivial
                      · trivial
                  · simp only
                    split
                    · rename_i hc2; simp only [TkOk]; omega
                    · trivial
              | snil _ htk =>
                obtain ⟨m', hr, k1, k2, k3, k4, k5⟩ := key none 0 (by simp)
                simp only [List.length_nil] at k2 k4 hr
                have e1 : hh = 0 := by omega
                have e2 : l = 0 := by omega
                have e3 : m' = 0 := by omega
                subst e1; subst e2; subst e3
                refine ⟨.slice none 0 0, ?_, ?_⟩
                · simp [Instr.sliceAt, Instr.slice, run_underlying hu, hr, run_sizeA hsz]
                · simp only [List.drop_nil, List.take_nil]
                  refine .snil _ ?_
                  unfold sliceTk
                  rcases k5 with ⟨rfl, _⟩ | rfl
                  · simpa using htk
                  · simp
            · cases e
          · cases e
  · cases e
end Go.Ab
