/- Soundness of calls. -/
import Derived.Test.YtnmejllfnndcbaaGreatDoorAbCode7
namespace Go.Ab
variable {P : Program} {cmp : List TypeId} {call : Call}

/-- Out of the heap h' only what stays is kept: h2, at which the moved tokens come last. -/
theorem cut_wr [Tabs P] {S S' : Sh} {h h' h2 : AHeap} {w w' : World} {mv : List Nat} (k : WR P S h w) (k' : WR P S' h' w') (hx : Ex S w.heap.size S') (hmv : MvOk h.length h' mv)
    (hlen : h2.length = h.length + mv.length) 
    (hlow : ∀ b x, b < h.length → h2[b]? = some x → (h'[b]? = some x ∧ h[b]? = some x) ∨ MovedBlk h.length h' mv b x)
    (hhigh : ∀ (j t : Nat), mv[j]? = some t → h2[h.length + j]? = h'[t]?) :
    Ex S w.heap.size (S'.cut h.length mv) ∧ WR P (S'.cut h.length mv) h2 w' := by
  have dρ : ∀ b r, S.ρ b = some r → b < h.length := fun b r hb => (k.lt hb).1
  have dτ : ∀ b x, S.τ b = some x → b < h.length := fun b x hb => (k.ltτ (r := x.1) (c := x.2.1) (l := x.2.2) hb).1
  have cρ : ∀ b r, (S'.cut h.length mv).ρ b = some r → b < h.length ∧ S'.ρ b = some r := by
    intro b r hb
    simp only [Sh.cut] at hb
    split at hb
    · exact ⟨‹_›, hb⟩
    · cases hb
  have cτ : ∀ b x, (S'.cut h.length mv).τ b = some x → (b < h.length ∧ S'.τ b = some x) ∨ ∃ j t, b = h.length + j ∧ mv[j]? = some t ∧ S'.τ t = some x := by
    intro b x hb
    simp only [Sh.cut] at hb
    split at hb
    · exact .inl ⟨‹_›, hb⟩
    · rename_i hn
      cases hm : mv[b - h.length]? with
      | none => simp [hm] at hb
      | some t => simp [hm] at hb; exact .inr ⟨b - h.length, t, by omega, hm, hb⟩
  -- a low block of the new heap
  have low : ∀ b x, b < h.length → h2[b]? = some x →
      (∃ cs l, x = .box l ∧ h'[b]? = some (.box cs) ∧ ∀ {C : List Value}, VRl S' cs C → VRl (S'.cut h.length mv) l C) ∨ (∃ q e, x = .tok q e ∧ h'[b]? = some (.tok q e)) := by
    intro b x hb hxb
    rcases hlow b x hb hxb with ⟨h1, h0⟩ | ⟨cs, l, h1, rfl, hl, hm⟩ | ⟨q, e, h1, rfl⟩
    · cases x with
      | box cs =>
        obtain ⟨r0, C0, T0, _, _, g3, _⟩ := k.box b cs h0
        refine .inl ⟨cs, cs, rfl, h1, fun {C} hC => ⟨hC.1, fun j u v hu hv => ?_⟩⟩
        obtain ⟨v0, _, hr0⟩ := g3.get hu
        exact (hC.2 j u v hu hv).cut_old dρ dτ hr0
      | tok q e => exact .inr ⟨q, e, rfl, h1⟩
    · refine .inl ⟨cs, l, rfl, h1, fun {C} hC => ⟨by rw [hl]; exact hC.1, fun j u v hu hv => ?_⟩⟩
      obtain ⟨a, ha, hma⟩ := hm j u hu
      exact hma.vr (hC.2 j a v ha hv)
    · exact .inr ⟨q, e, rfl, h1⟩
  have h2lt : ∀ b, b < h.length → ∃ x, h2[b]? = some x := fun b hb => ⟨h2[b]'(by omega), List.getElem?_eq_getElem (by omega)⟩
  refine ⟨⟨hx.M, fun b r hb => ?_, fun t r c l ht => ?_, fun b r hb => hx.newρ b r (cρ b r hb).2, fun t r c l ht => ?_, hx.newM, hx.F⟩, ?_⟩
  · simp only [Sh.cut]; rw [if_pos (dρ b r hb)]; exact hx.ρ b r hb
  · obtain ⟨r', c', l', h1, h2'⟩ := hx.τ t r c l ht
    exact ⟨r', c', l', by simp only [Sh.cut]; rw [if_pos (dτ t _ ht)]; exact h1, h2'⟩
  · rcases cτ t _ ht with ⟨_, h1⟩ | ⟨j, t', rfl, hm, h1⟩
    · exact hx.newτ t r c l h1
    · rcases hx.newτ t' r c l h1 with ⟨c0, l0, h3⟩ | h3
      · have := dτ t' _ h3
        have := (hmv.tk t' (List.mem_of_getElem? hm)).1
        omega
      · exact .inr h3
  · constructor
    · exact k'.imm
    · intro b cs hb
      by_cases hlt : b < h.length
      · rcases low b _ hlt hb with ⟨cs', l, e1, h1, h3⟩ | ⟨q, e, e1, _⟩
        · cases e1
          obtain ⟨r, C, T, g1, g2, g3, g4⟩ := k'.box b cs' h1
          exact ⟨r, C, T, by simp only [Sh.cut]; rw [if_pos hlt]; exact g1, g2, h3 g3, g4⟩
        · cases e1
      · have hb2 := (List.getElem?_eq_some_iff.1 hb).1
        have hj : b - h.length < mv.length := by omega
        have := hhigh (b - h.length) _ (List.getElem?_eq_getElem hj)
        rw [show h.length + (b - h.length) = b by omega, hb] at this
        obtain ⟨_, q, e, hq⟩ := hmv.tk _ (List.getElem_mem hj)
        rw [hq] at this; cases this
    · intro b len e hb
      by_cases hlt : b < h.length
      · rcases low b _ hlt hb with ⟨cs', l, e1, h1, h3⟩ | ⟨q, e', e1, h1⟩
        · cases e1
        · cases e1
          obtain ⟨r, cap, C, i, g1, g2⟩ := k'.tok b len e h1
          exact ⟨r, cap, C, i, by simp only [Sh.cut]; rw [if_pos hlt]; exact g1, g2⟩
      · have hb2 := (List.getElem?_eq_some_iff.1 hb).1
        have hj : b - h.length < mv.length := by omega
        have := hhigh (b - h.length) _ (List.getElem?_eq_getElem hj)
        rw [show h.length + (b - h.length) = b by omega, hb] at this
        obtain ⟨r, cap, C, i, g1, g2⟩ := k'.tok _ len e this.symm
        exact ⟨r, cap, C, i, by simp only [Sh.cut]; rw [if_neg hlt, List.getElem?_eq_getElem hj]; exact g1, g2⟩
    · intro b r hb
      obtain ⟨hlt, h1⟩ := cρ b r hb
      obtain ⟨cs, h3⟩ := k'.ρdom b r h1
      obtain ⟨x, hxb⟩ := h2lt b hlt
      rcases low b x hlt hxb with ⟨cs', l, rfl, _, _⟩ | ⟨q, e, rfl, h4⟩
      · exact ⟨l, hxb⟩
      · rw [h3] at h4; cases h4
    · intro b x hb
      rcases cτ b x hb with ⟨hlt, h1⟩ | ⟨j, t, rfl, hm, h1⟩
      · obtain ⟨e, h3⟩ := k'.τdom b x h1
        obtain ⟨y, hyb⟩ := h2lt b hlt
        rcases low b y hlt hyb with ⟨cs', l, rfl, h4, _⟩ | ⟨q, e', rfl, h4⟩
        · rw [h3] at h4; cases h4
        · rw [h3] at h4; cases h4; exact ⟨e, hyb⟩
      · obtain ⟨e, h3⟩ := k'.τdom t x h1
        exact ⟨e, by rw [hhigh j t hm]; exact h3⟩
    · intro b b' r hb hb'
      exact k'.injρ b b' r (cρ b r hb).2 (cρ b' r hb').2
    · intro b b' r c c' l l' hb hb'
      rcases cτ b _ hb with ⟨h1, h2'⟩ | ⟨j, t, rfl, hm, h2'⟩
      · rcases cτ b' _ hb' with ⟨h3, h4⟩ | ⟨j', t', rfl, hm', h4⟩
        · exact k'.injτ b b' r c c' l l' h2' h4
        · have := k'.injτ b t' r c c' l l' h2' h4
          have := (hmv.tk t' (List.mem_of_getElem? hm')).1
          omega
      · rcases cτ b' _ hb' with ⟨h3, h4⟩ | ⟨j', t', rfl, hm', h4⟩
        · have := k'.injτ t b' r c c' l l' h2' h4
          have := (hmv.tk t (List.mem_of_getElem? hm)).1
          omega
        · have := k'.injτ t t' r c c' l l' h2' h4
          subst this
          have hj := (List.getElem?_eq_some_iff.1 hm).1
          have hj' := (List.getElem?_eq_some_iff.1 hm').1
          have := (List.getElem?_inj hj hmv.nd).1 (hm.trans hm'.symm)
          omega
    · intro b b' r c l hb hb'
      have h1 := (cρ b r hb).2
      rcases cτ b' _ hb' with ⟨_, h4⟩ | ⟨j', t', _, _, h4⟩
      · exact k'.apart b b' r c l h1 h4
      · exact k'.apart b t' r c l h1 h4
    · intro x o hxo
      obtain ⟨h1, h3, h4⟩ := k'.frz x o hxo
      refine ⟨h1, fun b hb => h3 b (cρ b x hb).2, fun t c l ht => ?_⟩
      rcases cτ t _ ht with ⟨_, h5⟩ | ⟨j, t', _, _, h5⟩
      · exact h4 t c l h5
      · exact h4 t' c l h5
    · exact k'.laid

theorem leaveA_sound [Tabs P] {S S' : Sh} {h h' : AHeap} {w w' : World} {d : List Nat} {a : AVal} {v : Value} (k : WR P S h w) (st : Step P S w S' h' w') (hk : KeepH h h' d) (hv : VR S' a v) :
    ∃ S2, Step P S w S2 ((leaveA h.length a h' d).2.of h) w' ∧ VR S2 (leaveA h.length a h' d).1 v := by
  unfold leaveA
  simp only
  have hdl : ∀ b, b ∈ dedup (d.filter (· < h.length)) → b < h.length := fun b hb => by
    have := (List.mem_filter.1 (mem_dedup.1 hb)).2
    simpa using this
  have hdn : ∀ b, b < h.length → b ∉ dedup (d.filter (· < h.length)) → h'[b]? = h[b]? := fun b hb hm => hk.2 b hb (fun hm' => hm (mem_dedup.2 (List.mem_filter.2 ⟨hm', by simpa using hb⟩)))
  split
  · rename_i hlow
    have hv3 := (strip3_sound hv).cutA (mv := []) hlow
    split
    · rename_i hd0
      obtain ⟨h1, h2⟩ := cut_wr (mv := []) (h2 := h) k st.wr st.ext ⟨List.nodup_nil, fun t ht => by cases ht⟩ (by simp)
        (fun b x hb hx => .inl ⟨by rw [hdn b hb (by rw [hd0]; simp)]; exact hx, hx⟩) (fun j t hj => by simp at hj)
      exact ⟨_, ⟨h1, st.fr, h2⟩, hv3⟩
    · split
      · rename_i kk mv hl
        obtain ⟨q1, q2, q3⟩ := leaveBlks_sound _ _ [] kk mv hl ⟨List.nodup_nil, fun t ht => by cases ht⟩ (nodup_dedup _) (fun b hb => by rw [List.length_take]; have := hdl b hb; have := hk.1; omega)
        obtain ⟨l1, l2⟩ := leaveBlks_keep _ _ _ _ _ _ _ hl
        have hkl : kk.length = h.length := by rw [l1, List.length_take]; have := hk.1; omega
        have hsome : ∀ t ∈ mv, (h'[t]?).isSome = true := fun t ht => by obtain ⟨_, q, e, hq⟩ := q2.tk t ht; rw [hq]; rfl
        have hfm : ∀ j : Nat, (mv.filterMap fun t => h'[t]?)[j]? = (mv[j]?).bind fun t => h'[t]? := filterMap_get mv hsome
        have hfl : (mv.filterMap fun t => h'[t]?).length = mv.length := by
          have : ∀ l : List Nat, (∀ t ∈ l, (h'[t]?).isSome = true) → (l.filterMap fun t => h'[t]?).length = l.length := by
            intro l
            induction l with
            | nil => intro _; rfl
            | cons t l ih =>
              intro hl
              obtain ⟨b, hb⟩ := Option.isSome_iff_exists.1 (hl t (by simp))
              rw [List.filterMap_cons_some hb]
              simp [ih (fun x hx => hl x (by simp [hx]))]
          exact this mv hsome
        obtain ⟨h1, h2⟩ := cut_wr (mv := mv) (h2 := kk ++ mv.filterMap fun t => h'[t]?) k st.wr st.ext q2 (by rw [List.length_append, hkl, hfl])
          (fun b x hb hx => by
            rw [List.getElem?_append_left (by omega)] at hx
            by_cases hm : b ∈ dedup (d.filter (· < h.length))
            · obtain ⟨y, hy, hmb⟩ := q3 b hm
              rw [hx] at hy; cases hy
              exact .inr hmb
            · rw [l2 b hm, List.getElem?_take_of_lt hb] at hx
              exact .inl ⟨hx, by rw [← hdn b hb hm]; exact hx⟩)
          (fun j t hj => by
            rw [List.getElem?_append_right (by omega), hkl, show h.length + j - h.length = j by omega, hfm j, hj]
            rfl)
        exact ⟨_, ⟨h1, st.fr, h2⟩, (strip3_sound hv).cutA hlow⟩
      · exact ⟨S', st, strip3_sound hv⟩
  · exact ⟨S', st, strip3_sound hv⟩

/-- What is asked of the program once. -/
structure ProgOk (P : Program) (cmp : List TypeId) : Prop where
  mix : P.follows .mixedOrders = true
  cmp : ∀ t ∈ cmp, cmpOk P t = true
  name : ∀ (f : FuncId) (fn : Func), P.funcs[f]? = some fn → (fn.name == "runtime.NumGoroutine") = false

theorem fnA_sound [Tabs P] (hp : ProgOk P cmp) (hcall : CallOk P call) (hkeep : KeepCall call) {lp : Lp} (hlp : LpOk lp) : CallOk P (fnA P cmp call lp) := by
  intro f args h r e
  unfold fnA at e
  split at e
  · cases e
  · rename_i fn hfn
    split at e
    · cases e
    · rename_i c hc
      refine ⟨⟨fn, hfn, by rw [hc]; rfl, hp.name f fn hfn⟩, fun S w vs k ha => ?_⟩
      refine calls_of_wp hfn hc ?_
      have hts : VRl S (args ++ List.replicate (fn.ntmps - args.length) .undef) (vs ++ Array.replicate (fn.ntmps - vs.size) undef).toList := by
        rw [Array.toList_append, Array.toList_replicate]
        refine ha.append ?_
        have : args.length = vs.size := by rw [ha.1]; exact Array.length_toList
        rw [this]
        exact .replicate S _
      -- a normal end
      have fin : ∀ (s : St) (S' : Sh) (w' : World) (a' : Act), KeepH h s.heap s.dirty → Step P S w S' s.heap w' → VRl S' s.tmps a'.tmps.toList → a'.defers = [] →
          (match resA P fn.results.toList s with | some vs => some (CR.ret (leaveA h.length (tupleA vs) s.heap s.dirty).1 (leaveA h.length (tupleA vs) s.heap s.dirty).2) | none => none) = some r →
          a'.defers = [] ∧ ∃ v, (results fn a'.tmps).run P w' = .ok v w' ∧ CallPost P S h w r (.returned v) w' := by
        intro s S' w' a' hk st ht hd e
        split at e
        · rename_i us hus
          cases e
          obtain ⟨xs, g1, g2⟩ := resA_sound st.wr ht fn.results.toList us hus
          have hrun : (results fn a'.tmps).run P w' = .ok (tupleV xs) w' := by
            rw [results_eq, Sem.run_bind, Array.mapM_eq_mapM_toList, Sem.run_map, g1]
            simp only [Result.andThen_ok]
            match xs with
            | [] => rfl
            | [x] => rfl
            | x :: y :: z => rfl
          have hvr : VR S' (tupleA us) (tupleV xs) := by
            match us, xs, g2 with
            | [], [], g2 => exact VR.tuple' g2
            | [u], [x], g2 => exact g2.head
            | u :: u' :: us, x :: y :: z, g2 => exact VR.tuple' g2
            | [], x :: y, g2 => exact absurd g2.1 (by simp)
            | [u], [], g2 => exact absurd g2.1 (by simp)
            | [u], x :: y :: z, g2 => exact absurd g2.1 (by simp)
            | u :: u' :: us, [], g2 => exact absurd g2.1 (by simp)
            | u :: u' :: us, [x], g2 => exact absurd g2.1 (by simp)
          obtain ⟨S2, h1, h2⟩ := leaveA_sound k st hk hvr
          exact ⟨hd, _, hrun, _, S2, rfl, h1, h2⟩
        · cases e
      split at e
      · rename_i s hs
        refine codeA_sound hp.mix hp.cmp hcall hkeep hlp (ds := []) c _ _ hs _ S w _ k hts rfl ?_
        intro S' w' a' st ht hd
        exact fin s S' w' a' (codeA_keep hkeep hlp _ _ _ hs).1 st ht hd e
      · rename_i s hs
        refine codeA_sound hp.mix hp.cmp hcall hkeep hlp (ds := []) c _ _ hs _ S w _ k hts rfl ?_
        intro S' w' a' st ht hd
        exact fin s S' w' a' (codeA_keep hkeep hlp _ _ _ hs).1 st ht hd e
      · rename_i u s hs
        cases e
        refine codeA_sound hp.mix hp.cmp hcall hkeep hlp (ds := []) c _ _ hs _ S w _ k hts rfl ?_
        intro S' w' a' st ht hd v hv
        obtain ⟨S2, h1, h2⟩ := leaveA_sound k st (codeA_keep hkeep hlp _ _ _ hs).1 hv
        exact ⟨hd, v, S2, rfl, h1, h2⟩
      · cases e

/-- What stands for functions whose text isn't walked tells the truth. -/
structure ExtOk (P : Program) [Tabs P] (ext : Ext) : Prop where
  call : ∀ f g, ext f = some g → ∀ args h r, g args h = some r → (∃ fn, P.funcs[f]? = some fn ∧ fn.body.isSome = true) ∧
    ∀ (S : Sh) (w : World) (vs : Array Value), WR P S h w → VRl S args vs.toList → Calls P f vs w (CallPost P S h w r)
  keep : ∀ f g, ext f = some g → ∀ args h r, g args h = some r → KeepF h r.eff

theorem evN_ok [Tabs P] {ext : Ext} (hp : ProgOk P cmp) (hx : ExtOk P ext) : ∀ n, CallOk P (evN P cmp ext n) ∧ KeepCall (evN P cmp ext n)
  | 0 => ⟨(fun f args h r e => by cases e), (fun f args h r e => by cases e)⟩
  | n + 1 => by
    obtain ⟨h1, h2⟩ := evN_ok hp hx n
    constructor
    · intro f args h r e
      unfold evN at e
      split at e
      · rename_i g hg
        obtain ⟨⟨fn, hfn, hb⟩, hc⟩ := hx.call f g hg args h r e
        exact ⟨⟨fn, hfn, hb, hp.name f fn hfn⟩, hc⟩
      · exact fnA_sound hp h1 h2 (loopN_ok n) f args h r e
    · intro f args h r e
      unfold evN at e
      split at e
      · rename_i g hg; exact hx.keep f g hg args h r e
      · exact fnA_keep h2 (loopN_ok n) f args h r e
end Go.Ab
