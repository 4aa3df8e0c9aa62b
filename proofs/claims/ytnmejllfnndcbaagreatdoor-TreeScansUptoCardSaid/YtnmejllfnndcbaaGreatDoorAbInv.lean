/- Loops by what is known of the heap at their heads. -/
import Derived.Test.YtnmejllfnndcbaaGreatDoorAbBox
set_option linter.unusedSimpArgs false
set_option linter.unusedVariables false
namespace Go.Ab
def AtT (junk : List Nat) (ts0 : List AVal) (w : List (Nat × AVal)) (ts : List AVal) : Prop := ts = upd (w ++ junk.map fun k => (k, ts.getD k .undef)) ts0
theorem lpC_inv {α R : Type} {f : St → Option (AEx × St)} {ts0 : List AVal} {H0 : AHeap} {d0 : List Nat} {r : Option (AEx × St)} (hl : lpC f ⟨ts0, H0, d0⟩ = r)
    (junk : List Nat) (w : α → List (Nat × AVal)) (I : α → AHeap → Prop) (μ : α → Nat) (den : α → R) (Post : List AVal → R → AEx → St → Prop) (a0 : α) (h0 : I a0 H0)
    (hw : AtT junk ts0 (w a0) ts0)
    (hs : ∀ a (j : Nat → AVal) h d, I a h →
      (∃ a' s', f ⟨upd (w a ++ junk.map fun k => (k, j k)) ts0, h, d⟩ = some (.normal, s') ∧ I a' s'.heap ∧ AtT junk ts0 (w a') s'.tmps ∧ μ a' < μ a ∧ den a' = den a) ∨
      (∃ ex s', f ⟨upd (w a ++ junk.map fun k => (k, j k)) ts0, h, d⟩ = some (ex, s') ∧ (∀ s1 : St, (ex, s') ≠ (AEx.normal, s1)) ∧ Post ts0 (den a) ex s')) :
    ∃ ex s', r = some (ex, s') ∧ Post ts0 (den a0) ex s' := by
  subst hl
  refine lpC_den μ den (fun a s => I a s.heap ∧ AtT junk ts0 (w a) s.tmps) (Post ts0) ?_ (μ a0) a0 _ (Nat.le_refl _) ⟨h0, hw⟩
  rintro a ⟨ts, h, d⟩ ⟨hi, ha⟩
  have ha' : ts = upd (w a ++ junk.map fun k => (k, ts.getD k .undef)) ts0 := ha
  rw [ha']
  rcases hs a (fun k => ts.getD k .undef) h d hi with ⟨a', s', h1, h2, h3, h4, h5⟩ | h
  · exact .inl ⟨a', s', h1, ⟨h2, h3⟩, h4, h5⟩
  · exact .inr h
/-- Behind a loop: the slots but for w and the junk are as they were; the heap is told by I. -/
def OutT (junk : List Nat) (ts0 : List AVal) (w : List (Nat × AVal)) (I : AHeap → Prop) (s : St) : Prop := AtT junk ts0 w s.tmps ∧ I s.heap
theorem OutT.elim {junk : List Nat} {ts0 : List AVal} {w : List (Nat × AVal)} {I : AHeap → Prop} {s : St} (h : OutT junk ts0 w I s) :
    ∃ (j : Nat → AVal) (H : AHeap) (d : List Nat), I H ∧ s = ⟨upd (w ++ junk.map fun k => (k, j k)) ts0, H, d⟩ := by
  obtain ⟨ts, h', d⟩ := s
  refine ⟨fun k => ts.getD k .undef, h', d, h.2, ?_⟩
  have := h.1
  unfold AtT at this
  simp only at this
  rw [← this]
/-- A slice of the frame's own that grows. -/
def Grow (h : AHeap) (v : AVal) (es : List (List AVal)) (T : TypeId) : Prop := (es = [] ∧ v = .slice [] .full) ∨ ∃ t, v = .slice es (.own t) ∧ h[t]? = some (.tok es.length T)
def Boxes (h h' : AHeap) : Prop := ∀ (k : Nat) (cs : List AVal), h[k]? = some (.box cs) → h'[k]? = some (.box cs)
theorem Boxes.refl (h : AHeap) : Boxes h h := fun _ _ e => e
theorem Boxes.trans {a b c : AHeap} (h : Boxes a b) (k : Boxes b c) : Boxes a c := fun i cs e => k i cs (h i cs e)
theorem Boxes.app (h l : AHeap) : Boxes h (h ++ l) := fun k cs e => by
  rw [List.getElem?_append_left (List.getElem?_eq_some_iff.1 e).1]; exact e
theorem Grow.app {h : AHeap} {v : AVal} {es : List (List AVal)} {T : TypeId} (g : Grow h v es T) (l : AHeap) : Grow (h ++ l) v es T := by
  rcases g with g | ⟨t, hv, ht⟩
  · exact .inl g
  · exact .inr ⟨t, hv, by rw [List.getElem?_append_left (List.getElem?_eq_some_iff.1 ht).1]; exact ht⟩
theorem headOk_elems {sz : Nat} {es : List (List AVal)} (h : ∀ c ∈ es, c.length = sz) : headOk sz es = true := by
  cases es with
  | nil => rfl
  | cons c r => simp [headOk, h c (by simp)]
/-- One element more. -/
theorem app_grow {P : Program} {t e sz : Nat} (ok : AppOk P t e sz) {h : AHeap} {v : AVal} {es fs : List (List AVal)} (g : Grow h v es e) (hl : es.length + fs.length ≤ lenTop) (h1 : ∀ c ∈ es, c.length = sz) (h2 : ∀ c ∈ fs, c.length = sz) (hne : ¬ fs = []) :
    ∃ v' f, appendA P h t v (.slice fs .full) = some (v', f) ∧ Grow (f.of h) v' (es ++ fs) e ∧ Boxes h (f.of h) := by
  rcases g with ⟨rfl, rfl⟩ | ⟨p, rfl, hp⟩
  · refine ⟨_, _, app_full h ok hl (headOk_elems h1) (headOk_elems h2) hne, .inr ⟨_, rfl, ?_⟩, Boxes.app _ _⟩
    simp [Eff.of]
  · refine ⟨_, _, app_own h ok hl (headOk_elems h1) (headOk_elems h2) hne hp rfl, .inr ⟨_, rfl, ?_⟩, ?_⟩
    · simp only [Eff.of]
      rw [List.getElem?_set_self (List.getElem?_eq_some_iff.1 hp).1]
      simp
    · intro k cs hk
      simp only [Eff.of]
      by_cases hkp : p = k
      · subst hkp; rw [hp] at hk; cases hk
      · rw [List.getElem?_set_ne hkp]; exact hk
end Go.Ab
/- A printer: a box that holds the words, whose spare room is its own. -/
namespace Go.Ab
def encS (l : List Str) : List (List AVal) := l.map fun s => [.str s]
theorem encS_len (l : List Str) : (encS l).length = l.length := by simp [encS]
theorem encS_app (l m : List Str) : encS (l ++ m) = encS l ++ encS m := by simp [encS]
theorem encS_one (l : List Str) : ∀ c ∈ encS l, c.length = 1 := by
  intro c hc; obtain ⟨x, _, rfl⟩ := List.mem_map.1 hc; rfl
/-- The printer at b holds the words ws; tk: where its room's token lies. T: the type of strings. -/
def PrAt (T : TypeId) (h : AHeap) (b : Nat) (ws : List Str) : Option Nat → Prop
  | none => ws = [] ∧ h[b]? = some (.box [.slice [] .full])
  | some t => h[b]? = some (.box [.slice (encS ws) (.own t)]) ∧ h[t]? = some (.tok ws.length T)
theorem PrAt.app {T : TypeId} {h : AHeap} {b : Nat} {ws : List Str} {tk : Option Nat} (p : PrAt T h b ws tk) (l : AHeap) : PrAt T (h ++ l) b ws tk := by
  cases tk with
  | none => exact ⟨p.1, by rw [List.getElem?_append_left (List.getElem?_eq_some_iff.1 p.2).1]; exact p.2⟩
  | some t => exact ⟨by rw [List.getElem?_append_left (List.getElem?_eq_some_iff.1 p.1).1]; exact p.1, by rw [List.getElem?_append_left (List.getElem?_eq_some_iff.1 p.2).1]; exact p.2⟩
/-- How a printer lies in a callee's heap. -/
def Canon (T : TypeId) (h : AHeap) (ws : List Str) : Option Nat → Prop
  | none => ws = [] ∧ h = [.box [.slice [] .full]]
  | some t => t = 1 ∧ h = [.box [.slice (encS ws) (.own 1)], .tok ws.length T]
def pOwn (T : TypeId) (ws : List Str) : AHeap := [.box [.slice (encS ws) (.own 1)], .tok ws.length T]
theorem Canon.at {T : TypeId} {h : AHeap} {ws : List Str} {tk : Option Nat} (c : Canon T h ws tk) : PrAt T h 0 ws tk := by
  cases tk with
  | none => obtain ⟨rfl, rfl⟩ := c; exact ⟨rfl, rfl⟩
  | some t => obtain ⟨rfl, rfl⟩ := c; exact ⟨rfl, rfl⟩
/-- The other boxes stay. -/
def Others (b : Nat) (h h' : AHeap) : Prop := ∀ (k : Nat) (cs : List AVal), k ≠ b → h[k]? = some (.box cs) → h'[k]? = some (.box cs)
theorem Others.refl (b : Nat) (h : AHeap) : Others b h h := fun _ _ _ e => e
theorem Others.app (b : Nat) (h l : AHeap) : Others b h (h ++ l) := fun k cs _ e => Boxes.app h l k cs e
/-- A function that writes words. -/
def PrC (T : TypeId) (C : Call) (f : FuncId) (rest : List AVal) (out : List Str) : Prop :=
  ∀ (ws : List Str) (tk : Option Nat) (h : AHeap), Canon T h ws tk → ws.length + out.length ≤ lenTop → Gives C f (.ptr 0 0 :: rest) h (.tuple []) (pOwn T (ws ++ out))
/-- The like for functions that are called behind others alone. -/
def PrO (T : TypeId) (C : Call) (f : FuncId) (rest : List AVal) (out : List Str) : Prop :=
  ∀ (ws : List Str), ws.length + out.length ≤ lenTop → Gives C f (.ptr 0 0 :: rest) (pOwn T ws) (.tuple []) (pOwn T (ws ++ out))
theorem PrC.own {T : TypeId} {C : Call} {f : FuncId} {rest : List AVal} {out : List Str} (c : PrC T C f rest out) : PrO T C f rest out := fun ws hl => c ws (some 1) (pOwn T ws) ⟨rfl, rfl⟩ hl
theorem ren_slice_own (σ : Nat → Nat) (es : List (List AVal)) (t : Nat) : renL σ [.slice es (.own t)] = [.slice es (.own (σ t))] := rfl
/-- Such a call, in a frame, behind others. -/
theorem pr_callO {T : TypeId} {C : Call} (hk : KeepCall C) {f : FuncId} {rest : List AVal} {out : List Str} (c : PrO T C f rest out) (hr : refsL rest = []) {h : AHeap} {b : Nat} {ws : List Str} {t : Nat} (p : PrAt T h b ws (some t)) (hl : ws.length + out.length ≤ lenTop) :
    ∃ e : Eff, callA C h f (.ptr b 0 :: rest) = some (.ret (.tuple []) e) ∧ PrAt T (e.of h) b (ws ++ out) (some t) ∧ Others b h (e.of h) ∧ h.length ≤ (e.of h).length := by
  have hra : refsL (.ptr b 0 :: rest) = [b] := by simp [refsL, refs, hr]
  obtain ⟨hb, ht⟩ := p
  have hne : t ≠ b := by
    intro e; subst e; rw [hb] at ht; cases ht
  have hnb : (b == t) = false := beq_false_of_ne (Ne.symm hne)
  have hlt := (List.getElem?_eq_some_iff.1 hb).1
  have htt := (List.getElem?_eq_some_iff.1 ht).1
  have g := c ws hl
  have hidx : reach h 256 (refsL (.ptr b 0 :: rest)) [] = [b, t] := by rw [hra]; simp [reach, hb, ht, refsL, refs, hne]
  have hok : subOk h [b, t] (.ptr b 0 :: rest) = true := by unfold subOk; simp [hra, hb, ht, blkRefs, refsL, refs, hr]
  have hsub : subH h [b, t] = pOwn T ws := by
    simp only [subH, List.map_cons, List.map_nil, List.getD_eq_getElem?_getD, hb, ht, Option.getD_some, renB, ren_slice_own, pOwn, List.idxOf_cons, hnb, beq_self_eq_true, cond_true, cond_false]
    try rfl
  have hren : renL (fun x => [b, t].idxOf x) (.ptr b 0 :: rest) = .ptr 0 0 :: rest := by
    simp only [renL, ren, ren_pure hr, List.idxOf_cons, beq_self_eq_true, cond_true]
  obtain ⟨e, h1, h2⟩ := g
  rw [← hren, ← hsub] at h1
  have hbk := backE_ok (subOk_ok (by simp [hne.symm]) hok).1 (hk _ _ _ _ h1)
  rw [hsub] at hbk
  simp only [CR.eff] at hbk
  rw [h2] at hbk
  refine ⟨backE h [b, t] e, ?_, ⟨?_, ?_⟩, ?_, hbk.len⟩
  · unfold callA
    simp only [hidx]
    rw [if_pos hok, h1]
    rfl
  · rw [hbk.inn 0 b rfl]
    rfl
  · rw [hbk.inn 1 t rfl]
    rfl
  · intro k cs hkb hh
    have hkt : k ≠ t := by intro e; subst e; rw [ht] at hh; cases hh
    rw [hbk.out k (List.getElem?_eq_some_iff.1 hh).1 (by simp [hkb, hkt])]
    exact hh
/-- Such a call, in a frame. -/
theorem pr_call {T : TypeId} {C : Call} (hk : KeepCall C) {f : FuncId} {rest : List AVal} {out : List Str} (c : PrC T C f rest out) (hr : refsL rest = []) {h : AHeap} {b : Nat} {ws : List Str} {tk : Option Nat} (p : PrAt T h b ws tk) (hl : ws.length + out.length ≤ lenTop) :
    ∃ e : Eff, callA C h f (.ptr b 0 :: rest) = some (.ret (.tuple []) e) ∧ ∃ t, (∀ t0, tk = some t0 → t = t0) ∧ (tk = none → h.length ≤ t) ∧ PrAt T (e.of h) b (ws ++ out) (some t) ∧ Others b h (e.of h) ∧ h.length ≤ (e.of h).length := by
  have hra : refsL (.ptr b 0 :: rest) = [b] := by simp [refsL, refs, hr]
  cases tk with
  | none =>
    obtain ⟨rfl, hb⟩ := p
    have hlt := (List.getElem?_eq_some_iff.1 hb).1
    have g := c [] none [.box [.slice [] .full]] ⟨rfl, rfl⟩ hl
    have hidx : reach h 256 (refsL (.ptr b 0 :: rest)) [] = [b] := by rw [hra]; simp [reach, hb, refsL, refs]
    have hok : subOk h [b] (.ptr b 0 :: rest) = true := by unfold subOk; simp [hra, hb, blkRefs, refsL, refs, hr]
    have hsub : subH h [b] = [.box [.slice [] .full]] := by
      simp only [subH, List.map_cons, List.map_nil, List.getD_eq_getElem?_getD, hb, Option.getD_some, renB]; rfl
    have hren : renL (fun x => [b].idxOf x) (.ptr b 0 :: rest) = .ptr 0 0 :: rest := by
      simp only [renL, ren, ren_pure hr]; simp
    obtain ⟨e, h1, h2⟩ := g
    rw [← hren, ← hsub] at h1
    have hbk := backE_ok (subOk_ok (by simp) hok).1 (hk _ _ _ _ h1)
    rw [hsub] at hbk
    simp only [CR.eff] at hbk
    rw [h2] at hbk
    refine ⟨backE h [b] e, ?_, h.length, fun t0 e0 => (by cases e0), fun _ => Nat.le_refl _, ⟨?_, ?_⟩, ?_, hbk.len⟩
    · unfold callA
      simp only [hidx]
      rw [if_pos hok, h1]
      rfl
    · rw [hbk.inn 0 b rfl]
      rfl
    · rw [hbk.new h.length (Nat.le_refl _)]
      simp [pOwn, renB]
    · intro k cs hkb hh
      rw [hbk.out k (List.getElem?_eq_some_iff.1 hh).1 (by simpa using hkb)]
      exact hh
  | some t =>
    obtain ⟨e, h1, h2, h3, h4⟩ := pr_callO hk c.own hr p hl
    exact ⟨e, h1, t, fun t0 e0 => Option.some.inj e0, fun e0 => (by cases e0), h2, h3, h4⟩
theorem tok_of {T : TypeId} {h : AHeap} {b : Nat} {ws : List Str} {t : Nat} (p : PrAt T h b ws (some t)) : t ≠ b := by
  intro e; subst e; have := p.1; rw [p.2] at this; cases this
theorem strip_unit : strip3 (tupleA []) = .tuple [] := rfl
/-- The end of a walk, at the heap where it began. -/
def finF (P : Program) (h0 : AHeap) (rs : List ResultVar) (v : AVal) (h1 : AHeap) : Option (AEx × St) → Prop
  | some (.normal, s) | some (.ret, s) => ∃ vs, resA P rs s = some vs ∧ (KeepH h0 s.heap s.dirty → (leaveA h0.length (tupleA vs) s.heap s.dirty).1 = v ∧ (leaveA h0.length (tupleA vs) s.heap s.dirty).2.of h0 = h1)
  | _ => False
theorem gives_of_finF {P : Program} {cmp : List TypeId} {ext : Ext} (hkeep : KeepCall (evC P cmp ext)) {f : FuncId} {fn : Func} {c : Code} (hx : ext f = none) (hf : P.funcs[f]? = some fn) (hb : fn.body = some c) (hd : drawnOk c = true) {a : List AVal} {h : AHeap} {m : Nat} (hm : fn.ntmps - a.length = m) {v : AVal} {h1 : AHeap}
    (e : finF P h fn.results.toList v h1 (codeB P cmp (evC P cmp ext) lpC c ⟨a ++ List.replicate m .undef, h, []⟩)) : Gives (evC P cmp ext) f a h v h1 := by
  subst hm
  have hc := evC_fn (cmp := cmp) hx hf hb hd a h
  rw [← codeB_eq c _ hd] at e
  rw [← codeB_eq c _ hd] at hc
  cases hr : codeA P cmp (evC P cmp ext) lpC c ⟨a ++ List.replicate (fn.ntmps - a.length) .undef, h, []⟩ with
  | none => rw [hr] at e; exact e.elim
  | some x =>
    obtain ⟨ex, s⟩ := x
    have hk := (codeA_keep hkeep lpC_ok _ _ _ hr).1
    rw [hr] at e hc
    cases ex with
    | normal =>
      obtain ⟨vs, h2, h3⟩ := e
      obtain ⟨h4, h5⟩ := h3 hk
      refine ⟨_, ?_, h5⟩
      rw [hc]; simp only [fin, h2, h4]
    | ret =>
      obtain ⟨vs, h2, h3⟩ := e
      obtain ⟨h4, h5⟩ := h3 hk
      refine ⟨_, ?_, h5⟩
      rw [hc]; simp only [fin, h2, h4]
    | exit => exact e.elim
    | pan => exact e.elim
/-- The end of a walk that wrote words. -/
theorem fin_pr {P : Program} {T : TypeId} {h0 : AHeap} {ws out : List Str} {tk : Option Nat} (c : Canon T h0 ws tk) (hne : tk = none → out ≠ []) {rs : List ResultVar} {s : St} {ex : AEx} (hex : ex = .ret ∨ ex = .normal) (hrs : rs = [])
    {t : Nat} (h1 : ∀ t0, tk = some t0 → t = t0) (h2 : tk = none → h0.length ≤ t) (p : PrAt T s.heap 0 (ws ++ out) (some t)) : finF P h0 rs (.tuple []) (pOwn T (ws ++ out)) (some (ex, s)) := by
  subst hrs
  have main : KeepH h0 s.heap s.dirty → (leaveA h0.length (tupleA []) s.heap s.dirty).1 = .tuple [] ∧ (leaveA h0.length (tupleA []) s.heap s.dirty).2.of h0 = pOwn T (ws ++ out) := by
    intro hk
    cases tk with
    | some t0 =>
      obtain rfl := h1 t0 rfl
      obtain ⟨rfl, rfl⟩ := c
      have hp1 := p.1
      have hp2 := p.2
      have hst : ∀ b, b < 2 → Stays 2 s.heap b := by
        intro b hb
        rcases b with _ | _ | b
        · exact ⟨_, hp1, fun mv => by unfold leaveBlk; rw [hp1]; rfl⟩
        · exact ⟨_, hp2, fun mv => by unfold leaveBlk; rw [hp2]⟩
        · omega
      have := leave_stays (n := 2) (v := tupleA []) rfl hk rfl hst
      refine ⟨this.1, ?_⟩
      refine this.2.trans ?_
      apply List.ext_getElem?
      intro i
      rcases i with _ | _ | i
      · rw [List.getElem?_take_of_lt (by omega), hp1]; rfl
      · rw [List.getElem?_take_of_lt (by omega), hp2]; rfl
      · rw [List.getElem?_eq_none (by rw [List.length_take]; omega), List.getElem?_eq_none (by simp [pOwn])]
    | none =>
      obtain ⟨rfl, rfl⟩ := c
      have hp1 := p.1
      have hp2 := p.2
      have ht : 1 ≤ t := h2 rfl
      simp only [List.nil_append] at hp1 hp2 ⊢
      have h0d : 0 ∈ s.dirty := by
        apply Classical.byContradiction
        intro hn
        have := hk.2 0 (by simp) hn
        rw [hp1] at this
        cases out with
        | nil => exact hne rfl rfl
        | cons o r => simp [encS] at this
      have hd : dedup (s.dirty.filter (· < 1)) = [0] := by
        have hm : 0 ∈ dedup (s.dirty.filter (· < 1)) := mem_dedup.2 (List.mem_filter.2 ⟨h0d, by simp⟩)
        have hall : ∀ x ∈ dedup (s.dirty.filter (· < 1)), x = 0 := by
          intro x hx
          have := (List.mem_filter.1 (mem_dedup.1 hx)).2
          simp only [decide_eq_true_eq] at this
          omega
        have hnd := nodup_dedup (s.dirty.filter (· < 1))
        generalize dedup (s.dirty.filter (· < 1)) = l at hm hall hnd
        cases l with
        | nil => cases hm
        | cons a r =>
          obtain rfl := hall a (by simp)
          cases r with
          | nil => rfl
          | cons b q =>
            obtain rfl := hall b (by simp)
            simp at hnd
      have hlen : 0 < s.heap.length := (List.getElem?_eq_some_iff.1 hp1).1
      obtain ⟨x, hx⟩ : ∃ x, s.heap.take 1 = [x] := by
        cases hh : s.heap with
        | nil => rw [hh] at hlen; simp at hlen
        | cons x r => exact ⟨x, rfl⟩
      have hmv : moveToks 1 s.heap [.slice (encS out) (.own t)] [] = some ([.slice (encS out) (.own 1)], [t]) := by
        have hnt : ¬ t < 1 := by omega
        simp only [moveToks, if_neg hnt, hp2, encS_len, List.contains_nil, Bool.not_false, Bool.and_true, decide_true, if_true, List.nil_append, List.length_nil, Nat.add_zero]
      have hlb : leaveBlks 1 s.heap [0] (s.heap.take 1) [] = some ([.box [.slice (encS out) (.own 1)]], [t]) := by
        simp only [leaveBlks, leaveBlk, hp1, hmv, hx, List.set_cons_zero]
      have hlow : lowA 1 (strip3 (tupleA [])) = true := rfl
      unfold leaveA
      simp only [List.length_cons, List.length_nil, Nat.zero_add] at *
      rw [hd, if_pos hlow, hlb]
      refine ⟨rfl, ?_⟩
      simp only [Eff.of, List.filterMap_cons, hp2, List.filterMap_nil, pOwn]
      rfl
  rcases hex with rfl | rfl
  · exact ⟨[], rfl, main⟩
  · exact ⟨[], rfl, main⟩
def sepW (sign : Str) : List (List Str) → List Str
  | [] => []
  | x :: r => x ++ r.flatMap fun y => sign :: y
theorem sepW_snoc (sign : Str) (l : List (List Str)) (x : List Str) : sepW sign (l ++ [x]) = if l = [] then x else sepW sign l ++ ([sign] ++ x) := by
  cases l with
  | nil => simp [sepW]
  | cons y r => simp [sepW, List.flatMap_append, List.append_assoc]
theorem sepW_take (sign : Str) (L : List (List Str)) (i : Nat) (x : List Str) (h : L[i]? = some x) : sepW sign (L.take (i + 1)) = if i = 0 then x else sepW sign (L.take i) ++ ([sign] ++ x) := by
  have hlt := (List.getElem?_eq_some_iff.1 h).1
  have hx : L[i] = x := (List.getElem?_eq_some_iff.1 h).2
  rw [List.take_succ_eq_append_getElem hlt, sepW_snoc, hx]
  cases i with
  | zero => simp
  | succ j =>
    have : ¬ L.take (j + 1) = [] := by
      cases L with
      | nil => simp at hlt
      | cons a r => simp
    rw [if_neg this, if_neg (by omega)]
theorem sepW_len (sign : Str) (L : List (List Str)) (i : Nat) : (sepW sign (L.take i)).length ≤ (sepW sign L).length := by
  cases L with
  | nil => simp [sepW]
  | cons x r =>
    cases i with
    | zero => simp [sepW]
    | succ j =>
      simp only [List.take_succ_cons, sepW, List.length_append, Nat.add_le_add_iff_left]
      have : r.flatMap (fun y => sign :: y) = (r.take j).flatMap (fun y => sign :: y) ++ (r.drop j).flatMap (fun y => sign :: y) := by
        rw [← List.flatMap_append, List.take_append_drop]
      rw [this, List.length_append]
      omega
end Go.Ab
/- The printer's words are put. -/
namespace Go.Ab
open Go Go.Ab.Tab
set_option maxRecDepth 100000
set_option maxHeartbeats 4000000
set_option linter.unusedSimpArgs false
theorem C_finF {f : FuncId} {fn : Func} {c : Code} (hx : ext0 f = none) (hf : PP.funcs[f]? = some fn) (hb : fn.body = some c) (hd : drawnOk c = true) {a : List AVal} {h : AHeap} {m : Nat} (hm : fn.ntmps - a.length = m) {v : AVal} {h1 : AHeap}
    (e : finF PP h fn.results.toList v h1 (codeB PP cmp0 C lpC c ⟨a ++ List.replicate m .undef, h, []⟩)) : Gives C f a h v h1 := gives_of_finF keepC hx hf hb hd hm e
abbrev PrW (f : FuncId) (rest : List AVal) (out : List Str) : Prop := PrC 9 C f rest out
abbrev PrV (f : FuncId) (rest : List AVal) (out : List Str) : Prop := PrO 9 C f rest out
theorem put_c (l : List Str) (hl : l ≠ []) : PrW 34 [.slice (encS l) .full] l := by
  intro ws tk h c hb
  have hne : ¬ encS l = [] := by cases l with
    | nil => exact absurd rfl hl
    | cons => simp [encS]
  have hc := c
  cases tk with
  | some t =>
    obtain ⟨rfl, rfl⟩ := c
    have hap : appendA PP [.box [.slice (encS ws) (.own 1)], .tok ws.length 9] 33 (.slice (encS ws) (.own 1)) (.slice (encS l) .full) = some (.slice (encS (ws ++ l)) (.own 1), .heap [.box [.slice (encS ws) (.own 1)], .tok (ws ++ l).length 9] [1]) := by
      rw [app_own _ ao_33 (by rw [encS_len, encS_len]; exact hb) (headOk_elems (encS_one _)) (headOk_elems (encS_one _)) hne (by rw [encS_len]; rfl) rfl]
      simp [encS_app, encS_len]
    refine C_finF rfl Go.Proofs.Tryz.func34 rfl (by kernel_rfl) (m := 11) rfl ?_; simp only [sims, core, pe, Nat.reduceAdd, Int.reduceBEq, Int.reduceBNe, Int.reduceLT, Int.reduceLE, Go.Proofs.Tryz.f34, effs, fx_34, hap]
    exact fin_pr hc (fun _ => hl) (.inr rfl) rfl (fun _ e => Option.some.inj e) (fun e => by cases e) ⟨rfl, by simp⟩
  | none =>
    obtain ⟨rfl, rfl⟩ := c
    have hap : appendA PP [.box [.slice [] .full]] 33 (.slice [] .full) (.slice (encS l) .full) = some (.slice (encS l) (.own 1), .heap [.box [.slice [] .full], .tok l.length 9] []) := by
      rw [app_full _ ao_33 (by rw [encS_len]; simpa using hb) rfl (headOk_elems (encS_one _)) hne]
      simp [encS_len]
    refine C_finF rfl Go.Proofs.Tryz.func34 rfl (by kernel_rfl) (m := 11) rfl ?_; simp only [sims, core, pe, Nat.reduceAdd, Int.reduceBEq, Int.reduceBNe, Int.reduceLT, Int.reduceLE, Go.Proofs.Tryz.f34, effs, fx_34, hap]
    exact fin_pr hc (fun _ => hl) (.inr rfl) rfl (t := 1) (fun _ e => by cases e) (fun _ => Nat.le_refl _) ⟨rfl, by simp⟩
end Go.Ab
