/- Soundness of the single operations: append, put together. -/
import Derived.Test.YtnmejllfnndcbaaGreatDoorAbOp5
set_option linter.unusedSimpArgs false
set_option linter.unusedVariables false
namespace Go.Ab
variable {P : Program} {S : Sh} {h : AHeap} {w : World}

theorem run_append_none {t ty e : TypeId} {i : TypeInfo} (ht : P.underlying t = some (.slice e)) (hi : P.info? e = some i) (base : Option Addr) (n cap : Nat) (hn : n ≤ cap) (b : Option Addr) (c : Nat) :
    (Builtin.append_ #[t, t] ty #[.slice base n cap, .slice b 0 c]).run P w = .ok (.slice base n cap) w := by
  cases base <;> cases b <;> simp [Builtin.append_, run_underlying ht, sizeOf, typeInfo, hi, Builtin.lenOf, hn, Builtin.firstCells, loadCells, loadCellsFrom, storeCells]

theorem appendA_sound [Tabs P] (k : WR P S h w) {t ty : TypeId} {s x : AVal} {vs vx : Value} {r : AVal} {f : Eff} (hs : VR S s vs) (hx : VR S x vx)
    (e : appendA P h t s x = some (r, f)) :
    ∃ v w' S', (Builtin.append_ #[t, t] ty #[vs, vx]).run P w = .ok v w' ∧ Step P S w S' (f.of h) w' ∧ VR S' r v := by
  unfold appendA at e
  split at e
  · rename_i el es tk fs tk' hel
    have hu : P.underlying t = some (.slice el) := by
      unfold elemA at hel
      split at hel
      · rename_i e' he; cases hel; exact he
      · cases hel
    split at e
    · rename_i sz by_ z hsz hby hz
      obtain ⟨i, hi, hisz⟩ := sizeA_info hsz
      obtain ⟨i2, zv, hi2, hzv, hzo⟩ := zeroA_info hz
      rw [hi] at hi2; cases hi2
      have hib : i.bytes = by_ := by simpa [bytesA, hi] using hby
      split at e
      · rename_i hc
        simp only [Bool.and_eq_true, decide_eq_true_eq, beq_iff_eq] at hc
        obtain ⟨⟨⟨⟨⟨hlen, hb0⟩, hb1⟩, hzl⟩, hhe⟩, hhf⟩ := hc
        have hzs : zv.cells.size = i.size := by
          have := (ofV_sound (S := S) hzo).cells.1
          have h2 : zv.cells.toList.length = zv.cells.size := Array.length_toList
          omega
        have hpos : 0 < i.size := by omega
        have hlenm : es.length + fs.length ≤ 1099511627776 := hlen
        have hbytes : (es.length + fs.length) * i.bytes ≤ 140737488355328 := by
          rw [hib]
          calc (es.length + fs.length) * by_ ≤ 1099511627776 * 128 := Nat.mul_le_mul hlenm hb1
            _ = 140737488355328 := by decide
        split at e
        · -- nothing appended
          cases e
          have hv0 : ∃ b c, vx = .slice b 0 c := by
            cases hx with
            | slice _ _ ad n cap _ _ hn => exact ⟨some ad, cap, by simp at hn; rw [hn]⟩
            | snil => exact ⟨none, 0, rfl⟩
          obtain ⟨b, c, rfl⟩ := hv0
          have hv1 : ∃ b n c, vs = .slice b n c ∧ n ≤ c := by
            cases hs with
            | slice _ _ ad n cap _ _ hn hcap => exact ⟨some ad, n, cap, rfl, hcap⟩
            | snil => exact ⟨none, 0, 0, rfl, Nat.le_refl _⟩
          obtain ⟨b1, n1, c1, rfl, hn1⟩ := hv1
          exact ⟨_, w, S, run_append_none hu hi b1 n1 c1 hn1 b c, .refl k, hs⟩
        · rename_i hfs
          have hfl : 0 < fs.length := by
            cases fs with
            | nil => exact absurd rfl hfs
            | cons => simp
          -- what is appended
          obtain ⟨adx, cx, Y, rfl, hY, hYc⟩ : ∃ adx cx Y, vx = .slice (some adx) fs.length cx ∧ RowOf S fs i.size Y ∧ ∀ (j : Nat) (v : Value), Y[j]? = some v → w.cell? (adx.add j) = some v := by
            cases hx with
            | slice _ _ ad n cap esz vs' hn hcap hcm hsp hs' g1 hp g2 ht =>
              obtain ⟨Y, h1, h2, _⟩ := VR.row k (.slice fs tk' ad n cap esz vs' hn hcap hcm hsp hs' g1 hp g2 ht) (hisz ▸ hhf) hpos
              exact ⟨ad, cap, Y, by rw [hn], h1, h2⟩
            | snil => simp at hfl
          have hYl : Y.length = fs.length * i.size := hY.1
          have hY1 := hY.one hpos
          -- growing
          have grow : ∀ (X : List Value) (old : Nat), RowOf S es i.size X → old < es.length + fs.length → ∀ (b : Nat) (h'' : AHeap),
              ((b = h.length ∧ h'' = h ++ [.tok (es.length + fs.length) el]) ∨ (∃ l0 r0 c0, h[b]? = some (.tok l0 el) ∧ S.τ b = some (r0, c0, l0) ∧ l0 < es.length + fs.length ∧ h'' = h.set b (.tok (es.length + fs.length) el))) →
              ∃ S', Step P S w S' h'' (w.drew.alloc (.cells (X.toArray ++ Y.toArray ++ Builtin.zeroCells zv.cells (grownCap w (es.length + fs.length) old el - (es.length + fs.length))) el)) ∧
                VR S' (.slice (es ++ fs) (.own b)) (.slice (some ⟨w.heap.size, 0, none⟩) (es.length + fs.length) (grownCap w (es.length + fs.length) old el)) := by
            intro X old hX hold b h'' hb
            have hge := grownCap_ge w (es.length + fs.length) old el
            have hcm : grownCap w (es.length + fs.length) old el ≤ maxLen := grownCap_le_maxLen w _ old el (by simp only [maxLen]; omega)
            have hrow := hX.append hY
            have hst := newTok k.drew (C := X.toArray ++ Y.toArray ++ Builtin.zeroCells zv.cells (grownCap w (es.length + fs.length) old el - (es.length + fs.length))) (e := el) (i := i)
              (X := X ++ Y) (Y := (Builtin.zeroCells zv.cells (grownCap w (es.length + fs.length) old el - (es.length + fs.length))).toList) (cap := grownCap w (es.length + fs.length) old el) (len := es.length + fs.length)
              hi hpos (by simp) (by
                simp only [Array.size_append, List.size_toArray, size_zeroCells, hzs, hX.1, hY.1, ← Nat.add_mul]
                congr 1; omega) (by simp [hX.1, hY.1, Nat.add_mul]) hge hcm hb
            refine ⟨_, (Step.drew k).trans hst, ?_⟩
            refine VR.made (hrow.ext hst.ext) (fun j v hj => ?_) (by simp) hge hcm ⟨_, _, _, by simp [Sh.withTok], Nat.le_refl _, by omega, fun _ => ⟨rfl, rfl⟩⟩
            simp only [Sh.withTok, World.size_drew, and_self, if_true]
            exact hj
          split at e
          · -- full
            cases e
            cases hs with
            | slice _ _ ad n cap esz vs' hn hcap hcm hsp hs' g1 hp g2 ht =>
              subst hn
              have hcl : cap = es.length := ht
              subst hcl
              obtain ⟨X, hX, hXc, _⟩ := VR.row k (.slice es .full ad es.length es.length esz vs' rfl hcap hcm hsp hs' g1 hp g2 ht) (hisz ▸ hhe) hpos
              obtain ⟨S', hst, hvr⟩ := grow X es.length hX (by omega) h.length _ (.inl ⟨rfl, rfl⟩)
              refine ⟨_, _, S', run_append_grow (P := P) w t ty el i zv hu hi hzv ad es.length es.length X hX.1 hXc adx fs.length cx Y hYl hYc (by omega) (by omega) (growslice_fits (by omega) hbytes), hst, hvr⟩
            | snil _ _ =>
              obtain ⟨S', hst, hvr⟩ := grow [] 0 (.nil S _) (by simpa using hfl) h.length _ (.inl ⟨rfl, rfl⟩)
              simp only [List.length_nil, Nat.zero_add, List.nil_append] at hst hvr hbytes hlenm ⊢
              refine ⟨_, _, S', run_append_nil (P := P) w t ty el i zv hu hi hzv adx fs.length cx Y hYl hYc hfl (by omega) (by omega), ?_, hvr⟩
              simpa [Eff.of] using hst
          · -- owned
            rename_i b
            split at e
            · rename_i n e' hb
              split at e
              · rename_i hc2
                simp only [Bool.and_eq_true, decide_eq_true_eq] at hc2
                obtain ⟨⟨rfl, rfl⟩, _⟩ := hc2
                cases e
                obtain ⟨r0, cap0, C0, i0, t1, t2, t3, t4, t5, t6, t7, t8⟩ := k.tok b es.length e' hb
                rw [hi] at t3; cases t3
                cases hs with
                | snil _ htk => rcases htk with h | h <;> cases h
                | slice _ _ ad n cap esz vs' hn hcap hcm hsp hs' g1 hp g2 ht =>
                  obtain ⟨r1, c1, l1, u1, u2, u0, u3⟩ := ht
                  rw [t1] at u1; cases u1
                  subst hn
                  obtain ⟨rfl, rfl⟩ := u3 rfl
                  obtain ⟨X, hX, hXc, hXM⟩ := VR.row k (.slice es (.own b) ⟨r0, 0, none⟩ es.length cap esz vs' rfl hcap hcm hsp hs' g1 hp g2 ⟨r0, cap, es.length, t1, u2, u0, fun _ => ⟨rfl, rfl⟩⟩) (hisz ▸ hhe) hpos
                  have hes : es ≠ [] := by intro e; subst e; simp at u0
                  by_cases hroom : es.length + fs.length ≤ cap
                  · have hfit : es.length * i.size + Y.length ≤ C0.size := by rw [t5, hYl, ← Nat.add_mul]; exact Nat.mul_le_mul_right _ hroom
                    have hst := moreTok k (Y := Y) (m := fs.length) hb t1 t2 hi t5 hYl hfl hroom
                    refine ⟨_, _, _, run_append_room (P := P) w t ty e' i hu hi r0 es.length cap C0 t2 adx fs.length cx Y hYl hYc hY1 hroom hfit, hst, ?_⟩
                    refine VR.made ((hX.append hY).ext hst.ext) (fun j v hj => ?_) (by simp) hroom hcm ⟨_, _, _, by simp [Sh.moreTok], Nat.le_refl _, by omega, fun _ => ⟨rfl, rfl⟩⟩
                    by_cases hjx : j < X.length
                    · rw [List.getElem?_append_left hjx] at hj
                      have := hst.ext.M _ _ (hXM hes j v hj)
                      simpa using this
                    · rw [List.getElem?_append_right (by omega)] at hj
                      have hjl := (List.getElem?_eq_some_iff.1 hj).1
                      simp only [Sh.moreTok]
                      rw [hX.1] at hjx hj hjl
                      simp only [true_and]
                      rw [if_pos ⟨by omega, by omega⟩]
                      exact hj
                  · obtain ⟨S', hst, hvr⟩ := grow X cap hX (by omega) b _ (.inr ⟨es.length, r0, cap, hb, t1, by omega, rfl⟩)
                    exact ⟨_, _, S', run_append_grow (P := P) w t ty e' i zv hu hi hzv ⟨r0, 0, none⟩ es.length cap X hX.1 hXc adx fs.length cx Y hYl hYc (by omega) (by omega) (growslice_fits (by omega) hbytes), hst, hvr⟩
              · cases e
            · cases e
          · cases e
      · cases e
    · cases e
  · cases e
end Go.Ab
/- Calls see the blocks that their arguments reach, renumbered: soundness. -/
namespace Go.Ab
variable {P : Program}

theorem renL_get (σ : Nat → Nat) : ∀ (l : List AVal) (j : Nat), (renL σ l)[j]? = (l[j]?).map (ren σ)
  | [], j => by simp [renL]
  | v :: r, j => by
    cases j with
    | zero => simp [renL]
    | succ j => simpa [renL] using renL_get σ r j
theorem renL_length (σ : Nat → Nat) : ∀ l : List AVal, (renL σ l).length = l.length
  | [] => rfl
  | v :: r => by simp [renL, renL_length σ r]
theorem mem_refsL {l : List AVal} {b : Nat} : b ∈ refsL l ↔ ∃ a ∈ l, b ∈ refs a := by
  induction l with
  | nil => simp [refsL]
  | cons v r ih => simp [refsL, ih]
theorem refsL_sub {l : List AVal} {j : Nat} {a : AVal} (h : l[j]? = some a) {b : Nat} (hb : b ∈ refs a) : b ∈ refsL l := mem_refsL.2 ⟨a, List.mem_of_getElem? h, hb⟩

mutual
theorem ren_same {σ : Nat → Nat} : ∀ (a : AVal), (∀ b ∈ refs a, σ b = b) → ren σ a = a
  | .ptr b o, h => by simp only [ren, h b (by simp [refs])]
  | .slice es .free, h => rfl
  | .slice es .full, h => rfl
  | .slice es (.own t), h => by simp only [ren, h t (by simp [refs])]
  | .func f a b, h => by
    simp only [ren]
    rw [renL_same a (fun x hx => h x (by simp [refs, hx])), renL_same b (fun x hx => h x (by simp [refs, hx]))]
  | .iface t v, h => by simp only [ren]; rw [ren_same v (fun x hx => h x (by simpa [refs] using hx))]
  | .agg cs, h => by simp only [ren]; rw [renL_same cs (fun x hx => h x (by simpa [refs] using hx))]
  | .tuple cs, h => by simp only [ren]; rw [renL_same cs (fun x hx => h x (by simpa [refs] using hx))]
  | .undef, _ => rfl
  | .bool _, _ => rfl
  | .int _ _, _ => rfl
  | .str _, _ => rfl
  | .nilp, _ => rfl
  | .eptr _ _, _ => rfl
  | .nilf, _ => rfl
  | .nili, _ => rfl
theorem renL_same {σ : Nat → Nat} : ∀ (l : List AVal), (∀ b ∈ refsL l, σ b = b) → renL σ l = l
  | [], _ => rfl
  | v :: r, h => by
    simp only [renL]
    rw [ren_same v (fun x hx => h x (by simp [refsL, hx])), renL_same r (fun x hx => h x (by simp [refsL, hx]))]
end
mutual
theorem ren_ren {σ τ : Nat → Nat} : ∀ (a : AVal), ren τ (ren σ a) = ren (fun x => τ (σ x)) a
  | .ptr b o => rfl
  | .slice es .free => rfl
  | .slice es .full => rfl
  | .slice es (.own t) => rfl
  | .func f a b => by simp only [ren]; rw [renL_renL a, renL_renL b]
  | .iface t v => by simp only [ren]; rw [ren_ren v]
  | .agg cs => by simp only [ren]; rw [renL_renL cs]
  | .tuple cs => by simp only [ren]; rw [renL_renL cs]
  | .undef => rfl
  | .bool _ => rfl
  | .int _ _ => rfl
  | .str _ => rfl
  | .nilp => rfl
  | .eptr _ _ => rfl
  | .nilf => rfl
  | .nili => rfl
theorem renL_renL {σ τ : Nat → Nat} : ∀ (l : List AVal), renL τ (renL σ l) = renL (fun x => τ (σ x)) l
  | [] => rfl
  | v :: r => by simp only [renL]; rw [ren_ren v, renL_renL r]
end

/-- A renaming carries the relation. -/
theorem VR.ren {S S' : Sh} (σ : Nat → Nat) (hM : ∀ a v, S.M a = some v → S'.M a = some v) {a : AVal} {v : Value} (k : VR S a v) :
    (∀ b ∈ refs a, (∀ r, S.ρ b = some r → S'.ρ (σ b) = some r) ∧ ∀ x, S.τ b = some x → S'.τ (σ b) = some x) → VR S' (Go.Ab.ren σ a) v := by
  have pure0 : ∀ a : AVal, pureA a = true → refs a = [] := fun a h => by
    unfold pureA at h; simp only [Bool.and_eq_true] at h; simpa using h.2
  have pure1 : ∀ a : AVal, pureA a = true → Go.Ab.ren σ a = a := fun a h => ren_same a (by rw [pure0 a h]; simp)
  induction k with
  | undef => intro _; exact .undef
  | bool b => intro _; exact .bool b
  | int k n => intro _; exact .int k n
  | str s l e => intro _; exact .str s l e
  | nilp => intro _; exact .nilp
  | ptr b o r e => intro h; exact .ptr _ o r ((h b (by simp [refs])).1 r e)
  | eptr cs o r o0 vs h1 hp _ ih =>
    intro _
    refine .eptr cs o r o0 vs (fun j a hj => hM _ _ (h1 j a hj)) hp (fun j a hj => ?_)
    have hpa := hp a (List.mem_of_getElem? hj)
    have := ih j a hj (by rw [pure0 a hpa]; simp)
    rwa [pure1 a hpa] at this
  | slice es tk ad m cap esz vs hn hc hcm hsp hsz h1 hp _ ht ih =>
    intro h
    have h2 : ∀ (i : Nat) (c : List AVal) (j : Nat) (a : AVal), es[i]? = some c → c[j]? = some a → VR S' a (vs (i * esz + j)) := by
      intro i c j a hi hj
      have hpa := hp c (List.mem_of_getElem? hi) a (List.mem_of_getElem? hj)
      have := ih i c j a hi hj (by rw [pure0 a hpa]; simp)
      rwa [pure1 a hpa] at this
    cases tk with
    | free => exact .slice es _ ad m cap esz vs hn hc hcm hsp hsz (fun i c j a hi hj => hM _ _ (h1 i c j a hi hj)) hp h2 trivial
    | full => exact .slice es _ ad m cap esz vs hn hc hcm hsp hsz (fun i c j a hi hj => hM _ _ (h1 i c j a hi hj)) hp h2 ht
    | own t =>
      obtain ⟨r, c, l, t1, t2⟩ := ht
      exact .slice es _ ad m cap esz vs hn hc hcm hsp hsz (fun i c j a hi hj => hM _ _ (h1 i c j a hi hj)) hp h2 ⟨r, c, l, (h t (by simp [refs])).2 _ t1, t2⟩
  | snil tk e => intro h; rcases e with rfl | rfl <;> exact .snil _ (by simp)
  | func f x y p q hx hy _ _ i1 i2 =>
    intro h
    simp only [Go.Ab.ren]
    refine .func f _ _ p q (by rw [renL_length]; exact hx) (by rw [renL_length]; exact hy) (fun j u v hu hv => ?_) (fun j u v hu hv => ?_)
    · rw [renL_get] at hu
      cases ha : x[j]? with
      | none => simp [ha] at hu
      | some a => simp [ha] at hu; subst hu; exact i1 j a v ha hv (fun b hb => h b (by simp only [refs, List.mem_append]; exact .inl (refsL_sub ha hb)))
    · rw [renL_get] at hu
      cases ha : y[j]? with
      | none => simp [ha] at hu
      | some a => simp [ha] at hu; subst hu; exact i2 j a v ha hv (fun b hb => h b (by simp only [refs, List.mem_append]; exact .inr (refsL_sub ha hb)))
  | nilf => intro _; exact .nilf
  | iface t a v _ ih => intro h; exact .iface t _ v (ih (fun b hb => h b (by simpa [refs] using hb)))
  | nili => intro _; exact .nili
  | agg x p hx _ ih =>
    intro h
    simp only [Go.Ab.ren]
    refine .agg _ p (by rw [renL_length]; exact hx) (fun j u v hu hv => ?_)
    rw [renL_get] at hu
    cases ha : x[j]? with
    | none => simp [ha] at hu
    | some a => simp [ha] at hu; subst hu; exact ih j a v ha hv (fun b hb => h b (by simp only [refs]; exact refsL_sub ha hb))
  | tuple x p hx _ ih =>
    intro h
    simp only [Go.Ab.ren]
    refine .tuple _ p (by rw [renL_length]; exact hx) (fun j u v hu hv => ?_)
    rw [renL_get] at hu
    cases ha : x[j]? with
    | none => simp [ha] at hu
    | some a => simp [ha] at hu; subst hu; exact ih j a v ha hv (fun b hb => h b (by simp only [refs]; exact refsL_sub ha hb))
theorem VRl.ren {S S' : Sh} (σ : Nat → Nat) (hM : ∀ a v, S.M a = some v → S'.M a = some v) {l : List AVal} {x : List Value} (k : VRl S l x)
    (h : ∀ b ∈ refsL l, (∀ r, S.ρ b = some r → S'.ρ (σ b) = some r) ∧ ∀ x, S.τ b = some x → S'.τ (σ b) = some x) : VRl S' (renL σ l) x := by
  refine ⟨by rw [renL_length]; exact k.1, fun j u v hu hv => ?_⟩
  rw [renL_get] at hu
  cases ha : l[j]? with
  | none => simp [ha] at hu
  | some a => simp [ha] at hu; subst hu; exact (k.2 j a v ha hv).ren σ hM (fun b hb => h b (refsL_sub ha hb))

theorem reach_nodup (h : AHeap) : ∀ (n : Nat) (todo done : List Nat), done.Nodup → (reach h n todo done).Nodup
  | 0, _, done, hd => hd
  | n + 1, [], done, hd => hd
  | n + 1, b :: r, done, hd => by
    unfold reach
    split
    · exact reach_nodup h n r done hd
    · rename_i hc
      have hnd : (done ++ [b]).Nodup := by
        rw [List.nodup_append]
        refine ⟨hd, by simp, fun a ha c hc' => ?_⟩
        simp at hc'; subst hc'
        intro e; subst e
        rw [List.contains_eq_mem] at hc
        simp [ha] at hc
      split <;> exact reach_nodup h n _ _ hnd

theorem idxOf_get {idx : List Nat} {b : Nat} (h : b ∈ idx) : idx[idx.idxOf b]? = some b := by
  rw [List.getElem?_eq_getElem (List.idxOf_lt_length_of_mem h)]
  simp
theorem get_idxOf {idx : List Nat} (hn : idx.Nodup) {i b : Nat} (h : idx[i]? = some b) : idx.idxOf b = i := by
  have hi := (List.getElem?_eq_some_iff.1 h).1
  have := idxOf_get (List.mem_of_getElem? h)
  have h2 := (List.getElem?_inj hi hn).1 (h.trans this.symm)
  exact h2.symm

theorem putBack_length (idx : List Nat) (n : Nat) (h' : AHeap) : ∀ (d : List Nat) (h : AHeap), (putBack idx n h' d h).length = h.length
  | [], h => rfl
  | i :: r, h => by
    unfold putBack
    rw [putBack_length idx n h' r]
    split <;> simp
theorem putBack_other (idx : List Nat) (n : Nat) (h' : AHeap) {b : Nat} : ∀ (d : List Nat) (h : AHeap), (∀ i ∈ d, idx[i]? ≠ some b) → (putBack idx n h' d h)[b]? = h[b]?
  | [], h, _ => rfl
  | i :: r, h, hd => by
    unfold putBack
    rw [putBack_other idx n h' r _ (fun j hj => hd j (by simp [hj]))]
    split
    · rename_i c x hc _
      rw [List.getElem?_set_ne]
      intro e; subst e
      exact hd i (by simp) hc
    · rfl
theorem putBack_same (idx : List Nat) (hn : idx.Nodup) (n : Nat) (h' : AHeap) {b i : Nat} {x : Blk} (hb : idx[i]? = some b) (hx : h'[i]? = some x) : ∀ (d : List Nat) (h : AHeap), i ∈ d → b < h.length →
    (putBack idx n h' d h)[b]? = some (renB (backN n idx) x)
  | [], h, hi, _ => by cases hi
  | j :: r, h, hi, hl => by
    unfold putBack
    by_cases hir : i ∈ r
    · exact putBack_same idx hn n h' hb hx r _ hir (by split <;> simpa using hl)
    · have hij : i = j := by
        rcases List.mem_cons.1 hi with h | h
        · exact h
        · exact absurd h hir
      subst hij
      rw [putBack_other]
      · simp only [hb, hx]
        exact List.getElem?_set_self hl
      · intro k hk e
        have e2 : k = i := (get_idxOf hn e).symm.trans (get_idxOf hn hb)
        exact hir (by rw [← e2]; exact hk)

theorem renB_back {idx : List Nat} {x : Blk} (hx : ∀ c ∈ blkRefs x, c ∈ idx) (n : Nat) : renB (backN n idx) (renB (fun y => idx.idxOf y) x) = x := by
  have key : ∀ b ∈ idx, backN n idx (idx.idxOf b) = b := fun b hb => by
    have h1 := idxOf_get hb
    have h2 := List.idxOf_lt_length_of_mem hb
    simp only [backN, h2, if_true, List.getD_eq_getElem?_getD, h1, Option.getD_some]
  cases x with
  | box cs =>
    simp only [renB]
    rw [renL_renL, renL_same cs (fun b hb => key b (hx b hb))]
  | tok l e => rfl
end Go.Ab
