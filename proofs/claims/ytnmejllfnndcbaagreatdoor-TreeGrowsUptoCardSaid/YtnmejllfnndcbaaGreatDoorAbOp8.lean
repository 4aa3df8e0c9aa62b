/- Soundness of the single operations: append, put together. -/
import Derived.Test.YtnmejllfnndcbaaGreatDoorAbOp7
namespace Go.Ab
variable {P : Program} {S : Sh} {h : AHeap} {w : World}

theorem run_append_none {t ty e : TypeId} {i : TypeInfo} (ht : P.underlying t = some (.slice e)) (hi : P.info? e = some i) (base : Option Addr) (n cap : Nat) (hn : n ≤ cap) (b : Option Addr) (c : Nat) :
    (Builtin.append_ #[t, t] ty #[.slice base n cap, .slice b 0 c]).run P w = .ok (.slice base n cap) w := by
  cases base <;> cases b <;> simp [Builtin.append_, run_underlying ht, sizeOf, typeInfo, hi, Builtin.lenOf, hn, Builtin.firstCells, loadCells, loadCellsFrom, storeCells]

theorem appendA_sound [Tabs P] (k : WR P S h w) {t ty : TypeId} {s x : AVal} {vs vx : Value} {r : AVal} {f : Eff} (hs : VR S s vs) (hx : VR S x vx)
    (e : appendA P h t s x = some (r, f)) :
    ∃ v w' S', (Builtin.append_ #[t, t] ty #[vs, vx]).run P w = .ok v w' ∧ Step P S w S' (f.of h) w' ∧ VR S' r v := by
  unfold appendA at e
  split at e
  · rename_i el es tk fs tk' hel
    have hu : P.underlying t = some (.slice el) := by
      unfold elemA at hel
      split at hel
      · rename_i e' he; cases hel; exact he
      · cases hel
    split at e
    · rename_i sz by_ z hsz hby hz
      obtain ⟨i, hi, hisz⟩ := sizeA_info hsz
      obtain ⟨i2, zv, hi2, hzv, hzo⟩ := zeroA_info hz
      rw [hi] at hi2; cases hi2
      have hib : i.bytes = by_ := by simpa [bytesA, hi] using hby
      split at e
      · rename_i hc
        simp only [Bool.and_eq_true, decide_eq_true_eq, beq_iff_eq] at hc
        obtain ⟨⟨⟨⟨⟨hlen, hb0⟩, hb1⟩, hzl⟩, hhe⟩, hhf⟩ := hc
        have hzs : zv.cells.size = i.size := by
          have := (ofV_sound (S := S) hzo).cells.1
          have h2 : zv.cells.toList.length = zv.cells.size := Array.length_toList
          omega
        have hpos : 0 < i.size := by omega
        have hlenm : es.length + fs.length ≤ 1099511627776 := hlen
        have hbytes : (es.length + fs.length) * i.bytes ≤ 140737488355328 := by
          rw [hib]
          calc (es.length + fs.length) * by_ ≤ 1099511627776 * 128 := Nat.mul_le_mul hlenm hb1
            _ = 140737488355328 := by decide
        split at e
        · -- nothing appended
          cases e
          have hv0 : ∃ b c, vx = .slice b 0 c := by
            cases hx with
            | slice _ _ ad n cap _ _ hn => exact ⟨some ad, cap, by simp at hn; rw [hn]⟩
            | snil => exact ⟨none, 0, rfl⟩
          obtain ⟨b, c, rfl⟩ := hv0
          have hv1 : ∃ b n c, vs = .slice b n c ∧ n ≤ c := by
            cases hs with
            | slice _ _ ad n cap _ _ hn hcap => exact ⟨some ad, n, cap, rfl, hcap⟩
            | snil => exact ⟨none, 0, 0, rfl, Nat.le_refl _⟩
          obtain ⟨b1, n1, c1, rfl, hn1⟩ := hv1
          exact ⟨_, w, S, run_append_none hu hi b1 n1 c1 hn1 b c, .refl k, hs⟩
        · rename_i hfs
          have hfl : 0 < fs.length := by
            cases fs with
            | nil => exact absurd rfl hfs
            | cons => simp
          -- what is appended
          obtain ⟨adx, cx, Y, rfl, hY, hYc⟩ : ∃ adx cx Y, vx = .slice (some adx) fs.length cx ∧ RowOf S fs i.size Y ∧ ∀ (j : Nat) (v : Value), Y[j]? = some v → w.cell? (adx.add j) = some v := by
            cases hx with
            | slice _ _ ad n cap esz vs' hn hcap hcm hsp hs' g1 hp g2 ht =>
              obtain ⟨Y, h1, h2, _⟩ := VR.row k (.slice fs tk' ad n cap esz vs' hn hcap hcm hsp hs' g1 hp g2 ht) (hisz ▸ hhf) hpos
              exact ⟨ad, cap, Y, by rw [hn], h1, h2⟩
            | snil => simp at hfl
          have hYl : Y.length = fs.length * i.size := hY.1
          have hY1 := hY.one hpos
          -- growing
          have grow : ∀ (X : List Value) (old : Nat), RowOf S es i.size X → old < es.length + fs.length → ∀ (b : Nat) (h'' : AHeap),
              ((b = h.length ∧ h'' = h ++ [.tok (es.length + fs.length) el]) ∨ (∃ l0 r0 c0, h[b]? = some (.tok l0 el) ∧ S.τ b = some (r0, c0, l0) ∧ l0 < es.length + fs.length ∧ h'' = h.set b (.tok (es.length + fs.length) el))) →
              ∃ S', Step P S w S' h'' (w.drew.alloc (.cells (X.toArray ++ Y.toArray ++ Builtin.zeroCells zv.cells (grownCap w (es.length + fs.length) old el - (es.length + fs.length))) el)) ∧
                VR S' (.slice (es ++ fs) (.own b)) (.slice (some ⟨w.heap.size, 0, none⟩) (es.length + fs.length) (grownCap w (es.length + fs.length) old el)) := by
            intro X old hX hold b h'' hb
            have hge := grownCap_ge w (es.length + fs.length) old el
            have hcm : grownCap w (es.length + fs.length) old el ≤ maxLen := grownCap_le_maxLen w _ old el (by simp only [maxLen]; omega)
            have hrow := hX.append hY
            have hst := newTok k.drew (C := X.toArray ++ Y.toArray ++ Builtin.zeroCells zv.cells (grownCap w (es.length + fs.length) old el - (es.length + fs.length))) (e := el) (i := i)
              (X := X ++ Y) (Y := (Builtin.zeroCells zv.cells (grownCap w (es.length + fs.length) old el - (es.length + fs.length))).toList) (cap := grownCap w (es.length + fs.length) old el) (len := es.length + fs.length)
              hi hpos (by simp) (by
                simp only [Array.size_append, List.size_toArray, size_zeroCells, hzs, hX.1, hY.1, ← Nat.add_mul]
                congr 1; omega) (by simp [hX.1, hY.1, Nat.add_mul]) hge hcm hb
            refine ⟨_, (Step.drew k).trans hst, ?_⟩
            refine VR.made (hrow.ext hst.ext) (fun j v hj => ?_) (by simp) hge hcm ⟨_, _, _, by simp [Sh.withTok], Nat.le_refl _, by omega, fun _ => ⟨rfl, rfl⟩⟩
            simp only [Sh.withTok, World.size_drew, and_self, if_true]
            exact hj
          split at e
          · -- full
            cases e
            cases hs with
            | slice _ _ ad n cap esz vs' hn hcap hcm hsp hs' g1 hp g2 ht =>
              subst hn
              have hcl : cap = es.length := ht
              subst hcl
              obtain ⟨X, hX, hXc, _⟩ := VR.row k (.slice es .full ad es.length es.length esz vs' rfl hcap hcm hsp hs' g1 hp g2 ht) (hisz ▸ hhe) hpos
              obtain ⟨S', hst, hvr⟩ := grow X es.length hX (by omega) h.length _ (.inl ⟨rfl, rfl⟩)
              refine ⟨_, _, S', run_append_grow (P := P) w t ty el i zv hu hi hzv ad es.length es.length X hX.1 hXc adx fs.length cx Y hYl hYc (by omega) (by omega) (growslice_fits (by omega) hbytes), hst, hvr⟩
            | snil _ _ =>
              obtain ⟨S', hst, hvr⟩ := grow [] 0 (.nil S _) (by simpa using hfl) h.length _ (.inl ⟨rfl, rfl⟩)
              simp only [List.length_nil, Nat.zero_add, List.nil_append] at hst hvr hbytes hlenm ⊢
              refine ⟨_, _, S', run_append_nil (P := P) w t ty el i zv hu hi hzv adx fs.length cx Y hYl hYc hfl (by omega) (by omega), ?_, hvr⟩
              simpa [Eff.of] using hst
          · -- owned
            rename_i b
            split at e
            · rename_i n e' hb
              split at e
              · rename_i hc2
                simp only [Bool.and_eq_true, decide_eq_true_eq] at hc2
                obtain ⟨⟨rfl, rfl⟩, _⟩ := hc2
                cases e
                obtain ⟨r0, cap0, C0, i0, t1, t2, t3, t4, t5, t6, t7, t8⟩ := k.tok b es.length e' hb
                rw [hi] at t3; cases t3
                cases hs with
                | snil _ htk => rcases htk with h | h <;> cases h
                | slice _ _ ad n cap esz vs' hn hcap hcm hsp hs' g1 hp g2 ht =>
                  obtain ⟨r1, c1, l1, u1, u2, u0, u3⟩ := ht
                  rw [t1] at u1; cases u1
                  subst hn
                  obtain ⟨rfl, rfl⟩ := u3 rfl
                  obtain ⟨X, hX, hXc, hXM⟩ := VR.row k (.slice es (.own b) ⟨r0, 0, none⟩ es.length cap esz vs' rfl hcap hcm hsp hs' g1 hp g2 ⟨r0, cap, es.length, t1, u2, u0, fun _ => ⟨rfl, rfl⟩⟩) (hisz ▸ hhe) hpos
                  have hes : es ≠ [] := by intro e; subst e; simp at u0
                  by_cases hroom : es.length + fs.length ≤ cap
                  · have hfit : es.length * i.size + Y.length ≤ C0.size := by rw [t5, hYl, ← Nat.add_mul]; exact Nat.mul_le_mul_right _ hroom
                    have hst := moreTok k (Y := Y) (m := fs.length) hb t1 t2 hi t5 hYl hfl hroom
                    refine ⟨_, _, _, run_append_room (P := P) w t ty e' i hu hi r0 es.length cap C0 t2 adx fs.length cx Y hYl hYc hY1 hroom hfit, hst, ?_⟩
                    refine VR.made ((hX.append hY).ext hst.ext) (fun j v hj => ?_) (by simp) hroom hcm ⟨_, _, _, by simp [Sh.moreTok], Nat.le_refl _, by omega, fun _ => ⟨rfl, rfl⟩⟩
                    by_cases hjx : j < X.length
                    · rw [List.getElem?_append_left hjx] at hj
                      have := hst.ext.M _ _ (hXM hes j v hj)
                      simpa using this
                    · rw [List.getElem?_append_right (by omega)] at hj
                      have hjl := (List.getElem?_eq_some_iff.1 hj).1
                      simp only [Sh.moreTok]
                      rw [hX.1] at hjx hj hjl
                      simp only [true_and]
                      rw [if_pos ⟨by omega, by omega⟩]
                      exact hj
                  · obtain ⟨S', hst, hvr⟩ := grow X cap hX (by omega) b _ (.inr ⟨es.length, r0, cap, hb, t1, by omega, rfl⟩)
                    exact ⟨_, _, S', run_append_grow (P := P) w t ty e' i zv hu hi hzv ⟨r0, 0, none⟩ es.length cap X hX.1 hXc adx fs.length cx Y hYl hYc (by omega) (by omega) (growslice_fits (by omega) hbytes), hst, hvr⟩
              · cases e
            · cases e
          · cases e
      · cases e
    · cases e
  · cases e
end Go.Ab
