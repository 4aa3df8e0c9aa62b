/- What is told of a program that may be is read as that program. -/
import Derived.Test.YtnmejllfnndcbaaGreatDoorAbBack
import Derived.Test.YtnmejllfnndcbaaGreatDoorAbPrN
import Derived.Test.YtnmejllfnndcbaaGreatDoorAbTxt
import Derived.Test.YtnmejllfnndcbaaGreatDoorAbRight
import Derived.Test.YtnmejllfnndcbaaGreatDoorAbReadT
set_option linter.unusedSimpArgs false
set_option linter.unusedVariables false
namespace Go.Ab
open Go Go.Ab.Tab
set_option maxRecDepth 100000
set_option maxHeartbeats 4000000
set_option linter.unusedSimpArgs false
theorem back_all {e : PExpr} (g : Good e) : e.Rng → Back e ∧ Fst e := by
  induction g with
  | int n h =>
    intro hr
    refine ⟨?_, good_fst (.int n h) hr.n⟩
    intro o r _ _
    have hw : (eInt n).words = [decB n] := by rw [words_eq]; rfl
    rw [hw, tw1, tok_int h hr.n.2]; exact Ev.pure fun _ _ => rfl
  | bool n h =>
    intro hr
    refine ⟨?_, good_fst (.bool n h) hr.n⟩
    intro o r _ _
    rcases h with rfl | rfl <;> (rw [words_eq]; exact Ev.pure fun _ _ => rfl)
  | con s h =>
    intro hr
    refine ⟨?_, good_fst (.con s h) hr.n⟩
    intro o r _ _
    have hw : (eCon s).words = [s] := by rw [words_eq]; rfl
    rw [hw, tw1, tok_con h]; exact Ev.pure fun _ _ => rfl
  | var s h =>
    intro hr
    refine ⟨?_, good_fst (.var s h) hr.n⟩
    intro o r _ hs
    have hw : (eVar s).words = [s] := by rw [words_eq]; rfl
    rw [hw, tw1, tok_name h, tw0]
    refine Ev.congr (g := fun m n => if hasS [91] r || hasS [40] r then pCall m (pE n) o s r else .ok (eVar s) r) (fun m n => rfl) (Ev.pure fun m n => ?_)
    rw [hs.1, hs.2]; rfl
  | un s k h g ih =>
    intro hr
    have i1 := ih (hr.kids k (by simp [eUn, PExpr.kids]))
    exact ⟨back_un s k h i1.1 i1.2, good_fst (.un s k h g) hr.n⟩
  | bin s a b h ga gb iha ihb =>
    intro hr
    have i1 := iha (hr.kids a (by simp [eBin, PExpr.kids])); have i2 := ihb (hr.kids b (by simp [eBin, PExpr.kids]))
    exact ⟨back_bin s a b h i1.1 i1.2 i2.1 i2.2, good_fst (.bin s a b h ga gb) hr.n⟩
  | cond a b c ga gb gc iha ihb ihc =>
    intro hr
    have i1 := iha (hr.kids a (by simp [eIf, PExpr.kids])); have i2 := ihb (hr.kids b (by simp [eIf, PExpr.kids])); have i3 := ihc (hr.kids c (by simp [eIf, PExpr.kids]))
    exact ⟨back_if a b c i1.1 i1.2 i2.1 i2.2 i3.1 i3.2, good_fst (.cond a b c ga gb gc) hr.n⟩
  | fby a b ga gb iha ihb =>
    intro hr
    have i1 := iha (hr.kids a (by simp [eFby, PExpr.kids])); have i2 := ihb (hr.kids b (by simp [eFby, PExpr.kids]))
    exact ⟨back_fby a b i1.1 i1.2 i2.1 i2.2, good_fst (.fby a b ga gb) hr.n⟩
  | pre k g ih =>
    intro hr
    have i1 := ih (hr.kids k (by simp [ePre, PExpr.kids]))
    exact ⟨back_pre k i1.1 i1.2, good_fst (.pre k g) hr.n⟩
  | arrow a b ga gb iha ihb =>
    intro hr
    have i1 := iha (hr.kids a (by simp [eArrow, PExpr.kids])); have i2 := ihb (hr.kids b (by simp [eArrow, PExpr.kids]))
    exact ⟨back_arrow a b i1.1 i1.2 i2.1 i2.2, good_fst (.arrow a b ga gb) hr.n⟩
  | when x c k hx hc g ih =>
    intro hr
    have i1 := ih (hr.kids k (by simp [eWhen, PExpr.kids]))
    exact ⟨back_when x c k hx hc i1.1 i1.2, good_fst (.when x c k hx hc g) hr.n⟩
  | arms op x cons kids hop hx hl h1 h2 hc hk ih =>
    intro hr
    refine ⟨?_, good_fst (.arms op x cons kids hop hx hl h1 h2 hc hk) hr.n⟩
    have hb := fun k hk => ih k hk (hr.kids k hk)
    rcases hop with rfl | rfl
    · exact back_arms 12 _ (.inl ⟨rfl, rfl⟩) x cons kids hx hl h1 hc hb
    · exact back_arms 13 _ (.inr ⟨rfl, rfl⟩) x cons kids hx hl h1 hc hb
  | call x cons kids hx h2 hc h3 h4 hk ih =>
    intro hr
    exact ⟨back_call x cons kids hx hc h3 (fun k hk => ih k hk (hr.kids k hk)), good_fst (.call x cons kids hx h2 hc h3 h4 hk) hr.n⟩
  | every a b hop ga gb iha ihb =>
    intro hr
    have i1 := iha (hr.kids a (by simp [eEvery, PExpr.kids])); have i2 := ihb (hr.kids b (by simp [eEvery, PExpr.kids]))
    exact ⟨back_every a b hop i1.1 i1.2 i2.1 i2.2, good_fst (.every a b hop ga gb) hr.n⟩
/-- An expression that is not too deep, as the reader of expressions reads it. -/
structure GoodE (e : PExpr) : Prop where
  g : Good e
  r : e.Rng
  d : nd e ≤ 50
theorem expr_back {e : PExpr} (h : GoodE e) {r : List PTok} (hs : stopE r) : Ev (fun _ n => pE n 0 1 (toks e.words ++ r)) (.ok e r) := by
  obtain ⟨b, f⟩ := back_all h.g h.r
  have := h.d
  exact b.inf f (by decide) (by omega) (by omega) hs
theorem Ev.diag {α : Type} {f : Nat → Nat → α} {x : α} (h : Ev f x) : Ev (fun _ n => f n n) x := by
  obtain ⟨N, h⟩ := h
  exact ⟨N, fun m n _ b => h n n b b⟩
def NmL (l : List Str) : Prop := l ≠ [] ∧ ∀ x ∈ l, isNameB x = true
def CnL (l : List Str) : Prop := l ≠ [] ∧ ∀ x ∈ l, isConB x = true
theorem names_back {l : List Str} (h : NmL l) (r : List PTok) : Ev (fun m _ => pNames m [40] [41] (toks (namesW l) ++ r)) (.ok l r) := by
  unfold namesW
  simp only [twa, tw1, tw0]
  refine Ev.congr (g := fun m _ => (pStrs 1 [44] m (toks (listW l [44]) ++ tokW [41] :: r)).bind fun l ts => wantS [41] ts fun ts => .ok l ts) (fun m n => rfl) ?_
  exact Ev.bind (k := fun _ _ l ts => wantS [41] ts fun ts => .ok l ts) (strs_back 1 [44] rfl l h.1 (fun x hx => tok_name (h.2 x hx)) (tokW [41] :: r) rfl) (Ev.pure fun _ _ => rfl)
structure GoodQ (q : PEq) : Prop where
  n : NmL q.names
  e : GoodE q.e
theorem head_begins {l : List Str} (h : NmL l) (r : List PTok) : begins (toks (headW l) ++ r) = true := by
  unfold headW
  split
  · rename_i x
    rw [tw1, tok_name (h.2 x (by simp))]; rfl
  · rfl
theorem eqW_toks (q : PEq) (r : List PTok) : toks (eqW q) ++ r = toks (headW q.names) ++ (tokW [61] :: (toks q.e.words ++ tokW [59] :: r)) := by
  unfold eqW; simp only [twa, tw1, tw0]
theorem eq_begins {q : PEq} (h : GoodQ q) (r : List PTok) : begins (toks (eqW q) ++ r) = true := by
  rw [eqW_toks]; exact head_begins h.n _
theorem head_back {l : List Str} (h : NmL l) (R : List PTok) : Ev (fun m _ => if hasS [40] (toks (headW l) ++ R) = true then pNames m [40] [41] (toks (headW l) ++ R) else wordS 1 (toks (headW l) ++ R) fun s ts => .ok [s] ts) (.ok l R) := by
  match l, h with
  | [], h => exact absurd rfl h.1
  | [x], h =>
    have hw : headW [x] = [x] := rfl
    rw [hw, tw1, tok_name (h.2 x (by simp)), tw0]
    exact Ev.pure fun _ _ => rfl
  | x :: y :: q, h =>
    have hw : headW (x :: y :: q) = namesW (x :: y :: q) := rfl
    rw [hw]
    exact Ev.congr (fun m n => rfl) (names_back h R)
theorem eq_back {q : PEq} (h : GoodQ q) (r : List PTok) : Ev (fun m n => pEq m (pE n) (toks (eqW q) ++ r)) (.ok q r) := by
  rw [eqW_toks]
  obtain ⟨R, hR⟩ : ∃ t, t = tokW [61] :: (toks q.e.words ++ tokW [59] :: r) := ⟨_, rfl⟩
  rw [← hR]
  refine Ev.bind (k := fun m n l ts => wantS [61] ts fun ts => (pE n 0 1 ts).bind fun e ts => wantS [59] ts fun ts => .ok (PEq.mk l e) ts) (head_back h.n R) ?_
  rw [hR]
  refine Ev.congr (g := fun _ n => (pE n 0 1 (toks q.e.words ++ tokW [59] :: r)).bind fun e ts => wantS [59] ts fun ts => .ok (PEq.mk q.names e) ts) (fun m n => rfl) ?_
  exact Ev.bind (k := fun _ _ e ts => wantS [59] ts fun ts => .ok (PEq.mk q.names e) ts) (expr_back h.e (stop_semi r)) (Ev.pure fun _ _ => rfl)
theorem eqs_back : ∀ (l : List PEq), (∀ q ∈ l, GoodQ q) → ∀ r, begins r = false → Ev (fun m n => pEqs (pE n) n m (toks (l.flatMap eqW) ++ r)) (.ok l r)
  | [], _, r, hr => Ev.succ (g := fun _ _ => .ok [] r) (fun m n => by simp only [List.flatMap_nil, tw0, pEqs, hr]; rfl) (Ev.pure fun _ _ => rfl)
  | q :: l, h, r, hr => by
    rw [List.flatMap_cons, twa]
    have hq := h q (by simp)
    refine Ev.succ (g := fun m n => (pEq n (pE n) (toks (eqW q) ++ (toks (l.flatMap eqW) ++ r))).bind fun q ts => (pEqs (pE n) n m ts).bind fun l ts => .ok (q :: l) ts) (fun m n => by simp only [pEqs, eq_begins hq]; rfl) ?_
    refine Ev.bind (k := fun m n q ts => (pEqs (pE n) n m ts).bind fun l ts => .ok (q :: l) ts) (Ev.diag (eq_back hq _)) ?_
    exact Ev.bind (k := fun m n l ts => .ok (q :: l) ts) (eqs_back l (fun x hx => h x (by simp [hx])) r hr) (Ev.pure fun _ _ => rfl)
structure GoodW (w : PWay) : Prop where
  t : isConB w.to = true
  e : GoodE w.cond
theorem ways_back : ∀ (l : List PWay), (∀ w ∈ l, GoodW w) → ∀ r, hasS [117, 110, 116, 105, 108] r = false → Ev (fun m n => pWays (pE n) m (toks (l.flatMap wayW) ++ r)) (.ok l r)
  | [], _, r, hr => Ev.succ (g := fun _ _ => .ok [] r) (fun m n => by simp only [List.flatMap_nil, tw0, pWays, hr]; rfl) (Ev.pure fun _ _ => rfl)
  | w :: l, h, r, hr => by
    have hq := h w (by simp)
    obtain ⟨R, hR⟩ : ∃ t, t = toks (l.flatMap wayW) ++ r := ⟨_, rfl⟩
    have hw : toks ((w :: l).flatMap wayW) ++ r = tokW [117, 110, 116, 105, 108] :: (toks w.cond.words ++ tokW [116, 104, 101, 110] :: ⟨2, w.to, 0, 0, 0⟩ :: tokW [59] :: R) := by
      rw [List.flatMap_cons, twa, ← hR, ← tok_con hq.t]; unfold wayW; simp only [twa, tw1, tw0]
    rw [hw]
    refine Ev.succ (g := fun m n => (pE n 0 1 (toks w.cond.words ++ tokW [116, 104, 101, 110] :: ⟨2, w.to, 0, 0, 0⟩ :: tokW [59] :: R)).bind fun e ts => wantS [116, 104, 101, 110] ts fun ts => wordS 2 ts fun c ts => wantS [59] ts fun ts => (pWays (pE n) m ts).bind fun l ts => .ok (PWay.mk e c :: l) ts) (fun m n => rfl) ?_
    refine Ev.bind (k := fun m n e ts => wantS [116, 104, 101, 110] ts fun ts => wordS 2 ts fun c ts => wantS [59] ts fun ts => (pWays (pE n) m ts).bind fun l ts => .ok (PWay.mk e c :: l) ts) (expr_back hq.e (stop_then _)) ?_
    refine Ev.congr (g := fun m n => (pWays (pE n) m R).bind fun l ts => .ok (PWay.mk w.cond w.to :: l) ts) (fun m n => rfl) ?_
    rw [hR]
    exact Ev.bind (k := fun m n l ts => .ok (PWay.mk w.cond w.to :: l) ts) (ways_back l (fun x hx => h x (by simp [hx])) r hr) (Ev.pure fun _ _ => rfl)
structure GoodS (s : PState) : Prop where
  n : isConB s.name = true
  q : ∀ q ∈ s.eqs, GoodQ q
  w : ∀ w ∈ s.ways, GoodW w
theorem ways_begins (l : List PWay) (r : List PTok) (h : begins r = false) : begins (toks (l.flatMap wayW) ++ r) = false := by
  cases l with
  | nil => exact h
  | cons w l => rfl
def stateB' (s : PState) : List Str := [s.name, [58]] ++ s.eqs.flatMap eqW ++ s.ways.flatMap wayW
theorem stateW_eq (s : PState) : stateW s = [115, 116, 97, 116, 101] :: stateB' s := by unfold stateW stateB'; rfl
theorem state_backd {s : PState} (h : GoodS s) (r : List PTok) (h1 : begins r = false) (h2 : hasS [117, 110, 116, 105, 108] r = false) : Ev (fun _ n => pState n (pE n) (toks (stateB' s) ++ r)) (.ok s r) := by
  have hw : toks (stateB' s) ++ r = ⟨2, s.name, 0, 0, 0⟩ :: tokW [58] :: (toks (s.eqs.flatMap eqW) ++ (toks (s.ways.flatMap wayW) ++ r)) := by
    rw [← tok_con h.n]; unfold stateB'; simp only [twa, tw1, tw0]
  rw [hw]
  refine Ev.congr (g := fun _ n => (pEqs (pE n) n n (toks (s.eqs.flatMap eqW) ++ (toks (s.ways.flatMap wayW) ++ r))).bind fun q ts => (pWays (pE n) n ts).bind fun w ts => .ok (PState.mk s.name q w) ts) (fun m n => rfl) ?_
  refine Ev.bind (k := fun _ n q ts => (pWays (pE n) n ts).bind fun w ts => .ok (PState.mk s.name q w) ts) (Ev.diag (eqs_back s.eqs h.q _ (ways_begins _ _ h1))) ?_
  exact Ev.bind (k := fun _ _ w ts => .ok (PState.mk s.name s.eqs w) ts) (Ev.diag (ways_back s.ways h.w r h2)) (Ev.pure fun _ _ => rfl)
theorem states_back : ∀ (s : PState) (l : List PState), GoodS s → (∀ x ∈ l, GoodS x) → ∀ r, begins r = false → hasS [117, 110, 116, 105, 108] r = false → hasS [115, 116, 97, 116, 101] r = false →
    Ev (fun m n => pStates (pE n) n m (toks (stateB' s) ++ (toks (l.flatMap stateW) ++ r))) (.ok (s :: l) r)
  | s, [], h, _, r, h1, h2, h3 => by
    rw [List.flatMap_nil, tw0]
    refine Ev.succ (g := fun m n => (pState n (pE n) (toks (stateB' s) ++ r)).bind fun s ts => if hasS [115, 116, 97, 116, 101] ts = true then (pStates (pE n) n m ts.tail).bind fun l ts => .ok (s :: l) ts else .ok [s] ts) (fun m n => rfl) ?_
    refine Ev.bind (k := fun m n s ts => if hasS [115, 116, 97, 116, 101] ts = true then (pStates (pE n) n m ts.tail).bind fun l ts => .ok (s :: l) ts else .ok [s] ts) (state_backd h r h1 h2) (Ev.pure fun m n => ?_)
    rw [h3]; rfl
  | s, t :: l, h, hl, r, h1, h2, h3 => by
    have hw : toks ((t :: l).flatMap stateW) ++ r = tokW [115, 116, 97, 116, 101] :: (toks (stateB' t) ++ (toks (l.flatMap stateW) ++ r)) := by
      rw [List.flatMap_cons, twa, stateW_eq, tw1]
    rw [hw]
    refine Ev.succ (g := fun m n => (pState n (pE n) (toks (stateB' s) ++ tokW [115, 116, 97, 116, 101] :: (toks (stateB' t) ++ (toks (l.flatMap stateW) ++ r)))).bind fun s ts => if hasS [115, 116, 97, 116, 101] ts = true then (pStates (pE n) n m ts.tail).bind fun l ts => .ok (s :: l) ts else .ok [s] ts) (fun m n => rfl) ?_
    refine Ev.bind (k := fun m n s ts => if hasS [115, 116, 97, 116, 101] ts = true then (pStates (pE n) n m ts.tail).bind fun l ts => .ok (s :: l) ts else .ok [s] ts) (state_backd h _ rfl rfl) ?_
    refine Ev.congr (g := fun m n => (pStates (pE n) n m (toks (stateB' t) ++ (toks (l.flatMap stateW) ++ r))).bind fun l ts => .ok (s :: l) ts) (fun m n => rfl) ?_
    exact Ev.bind (k := fun m n l ts => .ok (s :: l) ts) (states_back t l (hl t (by simp)) (fun x hx => hl x (by simp [hx])) r h1 h2 h3) (Ev.pure fun _ _ => rfl)
structure GoodI (x : PItem) : Prop where
  q : x.states = [] → GoodQ x.eq
  z : x.states ≠ [] → x.eq = ⟨[], eZero⟩
  s : ∀ s ∈ x.states, GoodS s
theorem items_back : ∀ (l : List PItem), (∀ x ∈ l, GoodI x) → ∀ r, begins r = false → hasS [97, 117, 116, 111, 109, 97, 116, 111, 110] r = false → Ev (fun m n => pItems (pE n) n m (toks (l.flatMap itemW) ++ r)) (.ok l r)
  | [], _, r, h1, h2 => Ev.succ (g := fun _ _ => .ok [] r) (fun m n => by simp only [List.flatMap_nil, tw0, pItems, h1, h2]; rfl) (Ev.pure fun _ _ => rfl)
  | x :: l, h, r, h1, h2 => by
    have hx := h x (by simp)
    have ih := items_back l (fun x hx => h x (by simp [hx])) r h1 h2
    obtain ⟨q, ss⟩ := x
    rw [List.flatMap_cons, twa]
    cases ss with
    | nil =>
      have hq : GoodQ q := hx.q rfl
      have hw : itemW ⟨q, []⟩ = eqW q := rfl
      rw [hw]
      refine Ev.succ (g := fun m n => (pEq n (pE n) (toks (eqW q) ++ (toks (l.flatMap itemW) ++ r))).bind fun q ts => (pItems (pE n) n m ts).bind fun l ts => .ok (PItem.mk q [] :: l) ts) (fun m n => by simp only [pItems, eq_begins hq]; rfl) ?_
      refine Ev.bind (k := fun m n q ts => (pItems (pE n) n m ts).bind fun l ts => .ok (PItem.mk q [] :: l) ts) (Ev.diag (eq_back hq _)) ?_
      exact Ev.bind (k := fun m n l ts => .ok (PItem.mk q [] :: l) ts) ih (Ev.pure fun _ _ => rfl)
    | cons s ss =>
      have hz : q = ⟨[], eZero⟩ := hx.z (by simp)
      subst hz
      obtain ⟨R, hR⟩ : ∃ t, t = toks (l.flatMap itemW) ++ r := ⟨_, rfl⟩
      rw [← hR] at ih ⊢
      have hw : toks (itemW ⟨⟨[], eZero⟩, s :: ss⟩) ++ R = tokW [97, 117, 116, 111, 109, 97, 116, 111, 110] :: tokW [115, 116, 97, 116, 101] :: (toks (stateB' s) ++ (toks (ss.flatMap stateW) ++ tokW [101, 110, 100] :: tokW [59] :: R)) := by
        have : itemW ⟨⟨[], eZero⟩, s :: ss⟩ = [[97, 117, 116, 111, 109, 97, 116, 111, 110]] ++ (s :: ss).flatMap stateW ++ [[101, 110, 100], [59]] := rfl
        rw [this, List.flatMap_cons, stateW_eq]; simp only [twa, tw1, tw0]
      rw [hw]
      refine Ev.succ (g := fun m n => (pStates (pE n) n n (toks (stateB' s) ++ (toks (ss.flatMap stateW) ++ tokW [101, 110, 100] :: tokW [59] :: R))).bind fun ss ts => wantS [101, 110, 100] ts fun ts => wantS [59] ts fun ts => (pItems (pE n) n m ts).bind fun l ts => .ok (PItem.mk ⟨[], eZero⟩ ss :: l) ts) (fun m n => rfl) ?_
      refine Ev.bind (k := fun m n ss ts => wantS [101, 110, 100] ts fun ts => wantS [59] ts fun ts => (pItems (pE n) n m ts).bind fun l ts => .ok (PItem.mk ⟨[], eZero⟩ ss :: l) ts) (Ev.diag (states_back s ss (hx.s s (by simp)) (fun y hy => hx.s y (by simp [hy])) (tokW [101, 110, 100] :: tokW [59] :: R) rfl rfl rfl)) ?_
      refine Ev.congr (g := fun m n => (pItems (pE n) n m R).bind fun l ts => .ok (PItem.mk ⟨[], eZero⟩ (s :: ss) :: l) ts) (fun m n => rfl) ?_
      exact Ev.bind (k := fun m n l ts => .ok (PItem.mk ⟨[], eZero⟩ (s :: ss) :: l) ts) ih (Ev.pure fun _ _ => rfl)
structure GoodN (x : PNode) : Prop where
  n : isNameB x.name = true
  f : ∀ s ∈ x.funs, isNameB s = true
  i : NmL x.ins
  u : NmL x.outs
  t : ∀ y ∈ x.items, GoodI y
theorem funs_back {l : List Str} (h : ∀ s ∈ l, isNameB s = true) (r : List PTok) (hr : hasS [91] r = false) : Ev (fun m _ => if hasS [91] (toks (brW l) ++ r) = true then pNames m [91] [93] (toks (brW l) ++ r) else .ok [] (toks (brW l) ++ r)) (.ok l r) := by
  by_cases h0 : l.length = 0
  · have : l = [] := List.eq_nil_of_length_eq_zero h0
    subst this
    have hbr : brW [] = [] := rfl
    rw [hbr, tw0]
    exact Ev.pure fun _ _ => by rw [hr]; rfl
  · have hbr : brW l = [[91]] ++ listW l [44] ++ [[93]] := by unfold brW; rw [if_neg h0]
    rw [hbr]; simp only [twa, tw1, tw0]
    have hs := strs_back 1 [44] rfl l (by intro e; rw [e] at h0; exact h0 rfl) (fun c hx => tok_name (h c hx)) (tokW [93] :: r) rfl
    refine Ev.congr (g := fun m n => (pStrs 1 [44] m (toks (listW l [44]) ++ tokW [93] :: r)).bind fun l ts => wantS [93] ts fun ts => .ok l ts) (fun m n => rfl) ?_
    exact Ev.bind (k := fun _ _ l ts => wantS [93] ts fun ts => .ok l ts) hs (Ev.pure fun _ _ => rfl)
def nodeB' (n : PNode) : List Str := [n.name] ++ (brW n.funs ++ (namesW n.ins ++ ([[61]] ++ (namesW n.outs ++ ([[119, 104, 101, 114, 101]] ++ (n.items.flatMap itemW ++ [[101, 110, 100]]))))))
theorem nodeW_eq (n : PNode) : nodeW n = [110, 111, 100, 101] :: nodeB' n := by unfold nodeW nodeB'; simp
theorem node_back {x : PNode} (h : GoodN x) (r : List PTok) : Ev (fun _ n => pNode n (pE n) (toks (nodeB' x) ++ r)) (.ok x r) := by
  unfold nodeB'
  simp only [twa, tw1, tw0]
  rw [tok_name h.n]
  obtain ⟨R4, hR4⟩ : ∃ t, t = toks (x.items.flatMap itemW) ++ tokW [101, 110, 100] :: r := ⟨_, rfl⟩
  obtain ⟨R3, hR3⟩ : ∃ t, t = toks (namesW x.outs) ++ tokW [119, 104, 101, 114, 101] :: R4 := ⟨_, rfl⟩
  obtain ⟨R2, hR2⟩ : ∃ t, t = toks (namesW x.ins) ++ tokW [61] :: R3 := ⟨_, rfl⟩
  have hR2' : hasS [91] R2 = false := by rw [hR2]; rfl
  rw [← hR4, ← hR3, ← hR2]
  refine Ev.congr (g := fun _ n => (if hasS [91] (toks (brW x.funs) ++ R2) = true then pNames n [91] [93] (toks (brW x.funs) ++ R2) else .ok [] (toks (brW x.funs) ++ R2)).bind fun f ts => (pNames n [40] [41] ts).bind fun i ts => wantS [61] ts fun ts => (pNames n [40] [41] ts).bind fun u ts =>
    wantS [119, 104, 101, 114, 101] ts fun ts => (pItems (pE n) n n ts).bind fun l ts => wantS [101, 110, 100] ts fun ts => .ok (PNode.mk x.name f i u l) ts) (fun m n => rfl) ?_
  refine Ev.bind (k := fun _ n f ts => (pNames n [40] [41] ts).bind fun i ts => wantS [61] ts fun ts => (pNames n [40] [41] ts).bind fun u ts =>
    wantS [119, 104, 101, 114, 101] ts fun ts => (pItems (pE n) n n ts).bind fun l ts => wantS [101, 110, 100] ts fun ts => .ok (PNode.mk x.name f i u l) ts) (Ev.diag (funs_back h.f R2 hR2')) ?_
  rw [hR2]
  refine Ev.bind (k := fun _ n i ts => wantS [61] ts fun ts => (pNames n [40] [41] ts).bind fun u ts =>
    wantS [119, 104, 101, 114, 101] ts fun ts => (pItems (pE n) n n ts).bind fun l ts => wantS [101, 110, 100] ts fun ts => .ok (PNode.mk x.name x.funs i u l) ts) (Ev.diag (names_back h.i _)) ?_
  refine Ev.congr (g := fun _ n => (pNames n [40] [41] R3).bind fun u ts =>
    wantS [119, 104, 101, 114, 101] ts fun ts => (pItems (pE n) n n ts).bind fun l ts => wantS [101, 110, 100] ts fun ts => .ok (PNode.mk x.name x.funs x.ins u l) ts) (fun m n => rfl) ?_
  rw [hR3]
  refine Ev.bind (k := fun _ n u ts => wantS [119, 104, 101, 114, 101] ts fun ts => (pItems (pE n) n n ts).bind fun l ts => wantS [101, 110, 100] ts fun ts => .ok (PNode.mk x.name x.funs x.ins u l) ts) (Ev.diag (names_back h.u _)) ?_
  refine Ev.congr (g := fun _ n => (pItems (pE n) n n R4).bind fun l ts => wantS [101, 110, 100] ts fun ts => .ok (PNode.mk x.name x.funs x.ins x.outs l) ts) (fun m n => rfl) ?_
  rw [hR4]
  exact Ev.bind (k := fun _ n l ts => wantS [101, 110, 100] ts fun ts => .ok (PNode.mk x.name x.funs x.ins x.outs l) ts) (Ev.diag (items_back x.items h.t (tokW [101, 110, 100] :: r) rfl rfl)) (Ev.pure fun _ _ => rfl)
structure GoodT (x : PEnum) : Prop where
  n : isNameB x.name = true
  c : CnL x.cons
def enumB' (t : PEnum) : List Str := [t.name, [61]] ++ listW t.cons [124] ++ [[59]]
theorem enumW_eq (t : PEnum) : enumW t = [116, 121, 112, 101] :: enumB' t := by unfold enumW enumB'; rfl
theorem enum_back {x : PEnum} (h : GoodT x) (r : List PTok) : Ev (fun m _ => pEnum m (toks (enumB' x) ++ r)) (.ok x r) := by
  unfold enumB'
  simp only [twa, tw1, tw0]
  rw [tok_name h.n]
  have hs := strs_back 2 [124] rfl x.cons h.c.1 (fun c hx => tok_con (h.c.2 c hx)) (tokW [59] :: r) rfl
  refine Ev.congr (g := fun m n => (pStrs 2 [124] m (toks (listW x.cons [124]) ++ tokW [59] :: r)).bind fun l ts => wantS [59] ts fun ts => .ok (PEnum.mk x.name l) ts) (fun m n => rfl) ?_
  exact Ev.bind (k := fun _ _ l ts => wantS [59] ts fun ts => .ok (PEnum.mk x.name l) ts) hs (Ev.pure fun _ _ => rfl)
structure GoodP (p : PProg) : Prop where
  t : ∀ x ∈ p.enums, GoodT x
  n : ∀ x ∈ p.nodes, GoodN x
def tEnd : PTok := ⟨6, [], 0, 0, 0⟩
theorem nodes_back : ∀ (l : List PNode), (∀ x ∈ l, GoodN x) → Ev (fun m n => pProg (pE n) n m (toks (l.flatMap nodeW) ++ [tEnd])) (.ok ⟨[], l⟩ [tEnd])
  | [], _ => Ev.succ (g := fun _ _ => .ok ⟨[], []⟩ [tEnd]) (fun m n => rfl) (Ev.pure fun _ _ => rfl)
  | x :: l, h => by
    rw [List.flatMap_cons, twa, nodeW_eq, tw1]
    refine Ev.succ (g := fun m n => (pNode n (pE n) (toks (nodeB' x) ++ (toks (l.flatMap nodeW) ++ [tEnd]))).bind fun x ts => (pProg (pE n) n m ts).bind fun p ts => .ok (PProg.mk p.enums (x :: p.nodes)) ts) (fun m n => rfl) ?_
    refine Ev.bind (k := fun m n x ts => (pProg (pE n) n m ts).bind fun p ts => .ok (PProg.mk p.enums (x :: p.nodes)) ts) (node_back (h x (by simp)) _) ?_
    exact Ev.bind (k := fun m n p ts => .ok (PProg.mk p.enums (x :: p.nodes)) ts) (nodes_back l (fun y hy => h y (by simp [hy]))) (Ev.pure fun _ _ => rfl)
theorem enums_back : ∀ (l : List PEnum) (q : List PNode), (∀ x ∈ l, GoodT x) → (∀ x ∈ q, GoodN x) → Ev (fun m n => pProg (pE n) n m (toks (l.flatMap enumW) ++ (toks (q.flatMap nodeW) ++ [tEnd]))) (.ok ⟨l, q⟩ [tEnd])
  | [], q, _, hq => nodes_back q hq
  | x :: l, q, h, hq => by
    rw [List.flatMap_cons, twa, enumW_eq, tw1]
    refine Ev.succ (g := fun m n => (pEnum n (toks (enumB' x) ++ (toks (l.flatMap enumW) ++ (toks (q.flatMap nodeW) ++ [tEnd])))).bind fun t ts => (pProg (pE n) n m ts).bind fun p ts => .ok (PProg.mk (t :: p.enums) p.nodes) ts) (fun m n => rfl) ?_
    refine Ev.bind (k := fun m n t ts => (pProg (pE n) n m ts).bind fun p ts => .ok (PProg.mk (t :: p.enums) p.nodes) ts) (Ev.diag (enum_back (h x (by simp)) _)) ?_
    exact Ev.bind (k := fun m n p ts => .ok (PProg.mk (x :: p.enums) p.nodes) ts) (enums_back l q (fun y hy => h y (by simp [hy])) hq) (Ev.pure fun _ _ => rfl)
theorem prog_back {p : PProg} (h : GoodP p) : Ev (fun m n => pProg (pE n) n m (toks (progW p) ++ [tEnd])) (.ok p [tEnd]) := by
  unfold progW
  rw [twa]
  exact enums_back p.enums p.nodes h.t h.n
theorem Ev.uniq {α : Type} {f : Nat → Nat → α} {x y : α} (h : Ev f x) (k : Ev f y) : x = y := by
  obtain ⟨N, h⟩ := h; obtain ⟨M, k⟩ := k
  rw [← h (max N M) (max N M) (by omega) (by omega)]
  exact k (max N M) (max N M) (by omega) (by omega)
theorem prog_inj {p q : PProg} (hp : GoodP p) (hq : GoodP q) (h : progW p = progW q) : p = q := by
  have h1 := prog_back hp
  rw [h] at h1
  have := h1.uniq (prog_back hq)
  exact (PR.ok.inj this).1
theorem expr_inj {a b : PExpr} (ha : GoodE a) (hb : GoodE b) (h : a.words = b.words) : a = b := by
  have h1 := expr_back ha (r := [tEnd]) ⟨⟨⟨rfl, rfl⟩, rfl, rfl⟩, rfl⟩
  rw [h] at h1
  have := h1.uniq (expr_back hb (r := [tEnd]) ⟨⟨⟨rfl, rfl⟩, rfl, rfl⟩, rfl⟩)
  exact (PR.ok.inj this).1
end Go.Ab
/- Programs that may be: their texts tell them. -/
namespace Go.Ab
open Go Go.Ab.Tab
set_option maxRecDepth 100000
set_option maxHeartbeats 4000000
set_option linter.unusedSimpArgs false
theorem imax_max (a b : Int) : imax a b = max a b := by unfold imax; omega
theorem ndL_mem {l : List PExpr} {n : Nat} (h : ∀ k ∈ l, nd k ≤ n) : ndL l ≤ n := by
  induction l with
  | nil => simp only [ndL]; omega
  | cons x r ih =>
    have h1 := h x (by simp)
    have h2 := ih (fun k hk => h k (by simp [hk]))
    simp only [ndL]; omega
theorem depth_nd (e : PExpr) : nd e ≤ lenTop → e.depth = (nd e : Int) := by
  induction e using PExpr.induct with
  | h op name n cons ks ih =>
    intro h
    simp only [nd] at h ⊢
    have key : ∀ (l : List PExpr) (a : Nat), (∀ k ∈ l, k ∈ ks) → depthL l (a : Int) = ((max a (ndL l) : Nat) : Int) := by
      intro l
      induction l with
      | nil => intro a _; simp only [depthL, ndL]; omega
      | cons x r ihl =>
        intro a hm
        have hx : nd x ≤ lenTop := by have := nd_le (hm x (by simp)); omega
        have e1 := ih x (hm x (by simp)) hx
        simp only [depthL, ndL, e1, imax_max]
        have : max (a : Int) (nd x : Int) = ((max a (nd x) : Nat) : Int) := by omega
        rw [this, ihl (max a (nd x)) (fun k hk => hm k (by simp [hk]))]
        omega
    have := key ks 0 (fun k hk => hk)
    simp only [PExpr.depth]
    have h0 : ((0 : Nat) : Int) = 0 := rfl
    rw [h0] at this
    rw [this]
    unfold wadd
    have hl : ndL ks ≤ lenTop := by omega
    have hm : max 0 (ndL ks) = ndL ks := by omega
    rw [hm, wrap_nat hl]
theorem nd_bulk (e : PExpr) : nd e ≤ e.bulk := by
  induction e using PExpr.induct with
  | h op name n cons ks ih =>
    simp only [nd, PExpr.bulk]
    have : ndL ks ≤ PExpr.bulkL ks := by
      clear name n cons op
      induction ks with
      | nil => simp [ndL]
      | cons x r ihl =>
        have h1 := ih x (by simp)
        have h2 := ihl (fun k hk => ih k (by simp [hk]))
        simp only [ndL, PExpr.bulkL]; omega
    omega
theorem accE_mono (p : Int × Int) (l : List PExpr) : p.2 ≤ (accE p l).2 := by
  induction l generalizing p with
  | nil => exact Int.le_refl _
  | cons x r ih =>
    rw [accE_cons]
    have := ih (wadd p.1 x.size, imax p.2 x.depth)
    have h2 : p.2 ≤ imax p.2 x.depth := by rw [imax_max]; omega
    exact Int.le_trans h2 this
theorem accE_mem (p : Int × Int) (l : List PExpr) : ∀ x ∈ l, x.depth ≤ (accE p l).2 := by
  induction l generalizing p with
  | nil => intro x hx; cases hx
  | cons y r ih =>
    intro x hx
    rw [accE_cons]
    rcases List.mem_cons.1 hx with rfl | hx
    · have := accE_mono (wadd p.1 x.size, imax p.2 x.depth) r
      have h2 : x.depth ≤ imax p.2 x.depth := by rw [imax_max]; omega
      exact Int.le_trans h2 this
    · exact ih _ x hx
theorem namesB_nm {l : List Str} {a b : Int} (h : namesB false l a b = true) : a ≤ l.length ∧ l.length ≤ b ∧ ∀ x ∈ l, isNameB x = true := by
  unfold namesB at h
  simp only [Bool.and_eq_true, decide_eq_true_eq, Bool.not_eq_true', List.any_eq_false, Bool.not_eq_true, nameB_false] at h
  exact ⟨h.1.1, h.1.2, fun x hx => by simpa using h.2 x hx⟩
theorem consB_nm {l : List Str} {a b : Int} (h : consB false l a b = true) : a ≤ l.length ∧ l.length ≤ b ∧ ∀ x ∈ l, isConB x = true := by
  unfold consB at h
  simp only [Bool.and_eq_true, decide_eq_true_eq, Bool.not_eq_true', List.any_eq_false, Bool.not_eq_true, conB_false] at h
  exact ⟨h.1.1, h.1.2, fun x hx => by simpa using h.2 x hx⟩
theorem ne_of_len {l : List Str} (h : (1 : Int) ≤ l.length) : l ≠ [] := by
  intro e; rw [e] at h; simp at h
theorem goodQ_of {q : PEq} (h : eqB false q = true) (hr : q.Rng) (hd : nd q.e ≤ 50) : GoodQ q := by
  unfold eqB at h
  rw [Bool.and_eq_true] at h
  obtain ⟨a, _, c⟩ := namesB_nm h.1
  exact ⟨⟨ne_of_len a, c⟩, good_of _ h.2, hr, hd⟩
theorem same_zero {e : PExpr} (h : e.same zeroE = true) : e = eZero := (same_iff e zeroE).1 h
theorem goodS_of {s : PState} (h : stateB false s = true) (hr : s.Rng) (hd : ∀ e ∈ s.exprs, nd e ≤ 50) : GoodS s := by
  unfold stateB at h
  simp only [Bool.and_eq_true, List.all_eq_true, conB_false] at h
  obtain ⟨⟨⟨⟨h1, _⟩, _⟩, h4⟩, h5⟩ := h
  refine ⟨h1, fun q hq => goodQ_of (h4 q hq) (hr.1 q hq) (hd _ ?_), fun w hw => ⟨(h5 w hw).1, good_of _ (h5 w hw).2, hr.2 w hw, hd _ ?_⟩⟩
  · exact List.mem_append_left _ (List.mem_map_of_mem (f := fun x : PEq => x.e) hq)
  · exact List.mem_append_right _ (List.mem_map_of_mem (f := fun x : PWay => x.cond) hw)
theorem goodI_of {x : PItem} (h : itemB false x = true) (hr : x.Rng) (hd : ∀ e ∈ x.exprs, nd e ≤ 50) : GoodI x := by
  unfold itemB at h
  by_cases hz : x.states = []
  · rw [if_pos (by simp [hz])] at h
    refine ⟨fun _ => goodQ_of h hr.1 (hd _ ?_), fun hne => absurd hz hne, fun s hs => ?_⟩
    · unfold PItem.exprs; simp [hz]
    · rw [hz] at hs; cases hs
  · have hl : ¬ ((x.states.length : Int) == 0) = true := by
      simp only [beq_iff_eq]; intro e; exact hz (List.eq_nil_of_length_eq_zero (by omega))
    rw [if_neg hl] at h
    simp only [Bool.and_eq_true, Bool.not_eq_true', List.any_eq_false, beq_iff_eq] at h
    obtain ⟨⟨⟨h1, h2⟩, _⟩, h4⟩ := h
    refine ⟨fun he => absurd he hz, fun _ => ?_, fun s hs => goodS_of (by simpa using h4 s hs) (hr.2 s hs) (fun e he => hd e ?_)⟩
    · have e1 : x.eq.names = [] := List.eq_nil_of_length_eq_zero (by omega)
      have e2 := same_zero h2
      cases hx : x.eq with
      | mk n e => rw [hx] at e1 e2; simp only at e1 e2; rw [e1, e2]
    · exact List.mem_append_right _ (List.mem_flatMap.2 ⟨s, hs, he⟩)
theorem goodN_of {n : PNode} (h : nodeB false n = true) (hr : n.Rng) (hd : ∀ e ∈ n.exprs, nd e ≤ 50) : GoodN n := by
  unfold nodeB at h
  simp only [Bool.and_eq_true, Bool.not_eq_true', List.any_eq_false, nameB_false] at h
  obtain ⟨⟨⟨⟨⟨h1, h2⟩, h3⟩, h4⟩, _⟩, h6⟩ := h
  obtain ⟨_, _, f⟩ := namesB_nm h2
  obtain ⟨i1, _, i⟩ := namesB_nm h3
  obtain ⟨o1, _, o⟩ := namesB_nm h4
  exact ⟨h1, f, ⟨ne_of_len i1, i⟩, ⟨ne_of_len o1, o⟩, fun x hx => goodI_of (by simpa using h6 x hx) (hr x hx) (fun e he => hd e (List.mem_flatMap.2 ⟨x, hx, he⟩))⟩
theorem right_zero {p : PProg} (h : rightI false p = 0) : progB false p = true ∧ ∀ n ∈ p.nodes, greatB n = false := by
  unfold rightI at h
  cases hq : progB false p with
  | false => rw [hq] at h; simp at h
  | true =>
    rw [hq, if_pos rfl] at h
    refine ⟨rfl, fun n hn => ?_⟩
    cases hg : p.nodes.any greatB with
    | true => rw [hg, if_pos rfl] at h; cases h
    | false => simpa using (List.any_eq_false.1 hg) n hn
theorem expr_bulk {p : PProg} {n : PNode} (hn : n ∈ p.nodes) {e : PExpr} (he : e ∈ n.exprs) : e.bulk ≤ p.bulk := by
  have h1 : n.bulk ≤ p.bulk := by
    have := sumOf_mem PNode.bulk p.nodes n hn
    unfold PProg.bulk; omega
  obtain ⟨x, hx, he⟩ := List.mem_flatMap.1 he
  have h2 : x.bulk ≤ n.bulk := by
    have := sumOf_mem PItem.bulk n.items x hx
    unfold PNode.bulk; omega
  have h3 : e.bulk ≤ x.bulk := by
    rcases List.mem_append.1 he with he | he
    · by_cases hz : x.states.length = 0
      · rw [if_pos hz] at he
        obtain rfl := List.mem_singleton.1 he
        unfold PItem.bulk PEq.bulk; omega
      · rw [if_neg hz] at he; cases he
    · obtain ⟨s, hs, he⟩ := List.mem_flatMap.1 he
      have h4 : s.bulk ≤ x.bulk := by
        have := sumOf_mem PState.bulk x.states s hs
        unfold PItem.bulk; omega
      have h5 : e.bulk ≤ s.bulk := by
        rcases List.mem_append.1 he with he | he
        · obtain ⟨q, hq, rfl⟩ := List.mem_map.1 he
          have := sumOf_mem PEq.bulk s.eqs q hq
          have h6 : q.e.bulk ≤ q.bulk := by unfold PEq.bulk; omega
          unfold PState.bulk; omega
        · obtain ⟨w, hw, rfl⟩ := List.mem_map.1 he
          have := sumOf_mem PWay.bulk s.ways w hw
          have h6 : w.cond.bulk ≤ w.bulk := by unfold PWay.bulk; omega
          unfold PState.bulk; omega
      omega
  omega
theorem goodP_of {p : PProg} (h : rightI false p = 0) (hr : p.Rng) (hb : p.bulk ≤ lenTop) : GoodP p := by
  obtain ⟨h1, h2⟩ := right_zero h
  unfold progB at h1
  simp only [Bool.and_eq_true, Bool.not_eq_true', List.any_eq_false, List.all_eq_true, nameB_false] at h1
  obtain ⟨⟨_, ht⟩, hn⟩ := h1
  refine ⟨fun t hx => ?_, fun n hx => goodN_of (by simpa using hn n hx) (hr.2 n hx) (fun e he => ?_)⟩
  · obtain ⟨a, _, c⟩ := consB_nm (ht t hx).2
    exact ⟨(ht t hx).1, ne_of_len a, c⟩
  · have hg := h2 n hx
    unfold greatB at hg
    simp only [Bool.or_eq_false_iff, decide_eq_false_iff_not] at hg
    have h3 := accE_mem (0, 0) n.exprs e he
    have h4 := nd_bulk e
    have h5 := expr_bulk hx he
    have h6 := depth_nd e (by omega)
    omega
def signL : List Str := [[45, 62], [60, 61], [60, 62], [40], [41], [91], [93], [60], [61], [44], [59], [58], [124], [43], [45], [42], [47], [37]]
/-- What may be a token's text. -/
inductive WOk : Str → Prop where
  | name {s : Str} : isNameB s = true → WOk s
  | con {s : Str} : isConB s = true → WOk s
  | word {s : Str} : s ∈ wordL → WOk s
  | sign {s : Str} : s ∈ signL → WOk s
  | int (n : Int) : 0 ≤ n → n ≤ 9223372036854775807 → WOk (decB n)
def Oks (l : List Str) : Prop := ∀ w ∈ l, WOk w
theorem oks_nil : Oks [] := fun w h => by cases h
theorem oks_cons {w : Str} {l : List Str} (h : WOk w) (k : Oks l) : Oks (w :: l) := fun x hx => by
  rcases List.mem_cons.1 hx with rfl | hx
  · exact h
  · exact k x hx
theorem oks_app {a b : List Str} (h : Oks a) (k : Oks b) : Oks (a ++ b) := fun x hx => by
  rcases List.mem_append.1 hx with hx | hx
  · exact h x hx
  · exact k x hx
theorem oks_one {w : Str} (h : WOk w) : Oks [w] := oks_cons h oks_nil
theorem oks_sep {s : Str} (hs : WOk s) {L : List (List Str)} (h : ∀ x ∈ L, Oks x) : Oks (sepW s L) := by
  cases L with
  | nil => exact oks_nil
  | cons x r =>
    refine oks_app (h x (by simp)) (fun w hw => ?_)
    obtain ⟨y, hy, hw⟩ := List.mem_flatMap.1 hw
    exact oks_cons hs (h y (by simp [hy])) w hw
theorem oks_list {s : Str} (hs : WOk s) {l : List Str} (h : ∀ x ∈ l, WOk x) : Oks (listW l s) := by
  refine oks_sep hs (fun x hx => ?_)
  obtain ⟨y, hy, rfl⟩ := List.mem_map.1 hx
  exact oks_one (h y hy)
theorem oks_br {l : List Str} (h : ∀ x ∈ l, WOk x) : Oks (brW l) := by
  unfold brW
  split
  · exact oks_nil
  · exact oks_app (oks_app (oks_one (.sign (by decide))) (oks_list (.sign (by decide)) h)) (oks_one (.sign (by decide)))
theorem unL_ok {s : Str} (h : s ∈ unL) : WOk s := by
  simp only [unL, List.mem_cons, List.not_mem_nil, or_false] at h
  rcases h with rfl | rfl
  · exact .word (by decide)
  · exact .sign (by decide)
theorem binL_ok {s : Str} (h : s ∈ binL) : WOk s := by
  simp only [binL, List.mem_cons, List.not_mem_nil, or_false] at h
  rcases h with rfl | rfl | rfl | rfl | rfl | rfl | rfl | rfl | rfl | rfl | rfl <;> first | exact .sign (by decide) | exact .word (by decide)
theorem oks_btw {a b : List Str} {s : Str} (ha : Oks a) (hs : WOk s) (hb : Oks b) : Oks (btwW a s b) :=
  oks_app (oks_app (oks_app (oks_app (oks_one (.sign (by decide))) ha) (oks_one hs)) hb) (oks_one (.sign (by decide)))
theorem good_oks {e : PExpr} (g : Good e) : e.Rng → Oks e.words := by
  induction g with
  | int n h => intro hr; rw [words_eq]; exact oks_one (.int n h hr.n.2)
  | bool n h => intro hr; rw [words_eq]; rcases h with rfl | rfl <;> exact oks_one (.word (by decide))
  | con s h => intro hr; rw [words_eq]; exact oks_one (.con h)
  | var s h => intro hr; rw [words_eq]; exact oks_one (.name h)
  | un s k h g ih =>
    intro hr; rw [words_eq]
    exact oks_app (oks_app (oks_cons (.sign (by decide)) (oks_one (unL_ok h))) (ih (hr.kids k (by simp [eUn, PExpr.kids])))) (oks_one (.sign (by decide)))
  | bin s a b h ga gb iha ihb =>
    intro hr; rw [words_eq]
    exact oks_btw (iha (hr.kids a (by simp [eBin, PExpr.kids]))) (binL_ok h) (ihb (hr.kids b (by simp [eBin, PExpr.kids])))
  | cond a b c ga gb gc iha ihb ihc =>
    intro hr; rw [words_eq]
    exact oks_app (oks_app (oks_app (oks_app (oks_app (oks_app (oks_cons (.sign (by decide)) (oks_one (.word (by decide)))) (iha (hr.kids a (by simp [eIf, PExpr.kids])))) (oks_one (.word (by decide)))) (ihb (hr.kids b (by simp [eIf, PExpr.kids])))) (oks_one (.word (by decide)))) (ihc (hr.kids c (by simp [eIf, PExpr.kids])))) (oks_one (.sign (by decide)))
  | fby a b ga gb iha ihb =>
    intro hr; rw [words_eq]
    exact oks_btw (iha (hr.kids a (by simp [eFby, PExpr.kids]))) (.word (by decide)) (ihb (hr.kids b (by simp [eFby, PExpr.kids])))
  | pre k g ih =>
    intro hr; rw [words_eq]
    exact oks_app (oks_app (oks_cons (.sign (by decide)) (oks_one (.word (by decide)))) (ih (hr.kids k (by simp [ePre, PExpr.kids])))) (oks_one (.sign (by decide)))
  | arrow a b ga gb iha ihb =>
    intro hr; rw [words_eq]
    exact oks_btw (iha (hr.kids a (by simp [eArrow, PExpr.kids]))) (.sign (by decide)) (ihb (hr.kids b (by simp [eArrow, PExpr.kids])))
  | when x c k hx hc g ih =>
    intro hr; rw [words_eq]
    exact oks_app (oks_app (oks_app (oks_app (oks_one (.sign (by decide))) (ih (hr.kids k (by simp [eWhen, PExpr.kids])))) (oks_one (.word (by decide)))) (oks_list (.sign (by decide)) (fun y hy => by obtain rfl := List.mem_singleton.1 hy; exact .con hc))) (oks_cons (.sign (by decide)) (oks_cons (.name hx) (oks_cons (.sign (by decide)) (oks_one (.sign (by decide))))))
  | arms op x cons kids hop hx hl h1 h2 hc hk ih =>
    intro hr; rw [words_eq]
    have key : Oks (sepW [124] (armL cons (kids.map PExpr.words))) := by
      refine oks_sep (.sign (by decide)) (fun z hz => ?_)
      unfold armL at hz
      obtain ⟨i, hi, rfl⟩ := List.getElem_of_mem hz
      simp only [List.getElem_zipWith, List.getElem_map]
      exact oks_app (oks_cons (.con (hc _ (List.getElem_mem _))) (oks_one (.sign (by decide)))) (ih _ (List.getElem_mem _) (hr.kids _ (List.getElem_mem _)))
    rcases hop with rfl | rfl
    · exact oks_app (oks_app (oks_cons (.word (by decide)) (oks_cons (.name hx) (oks_one (.sign (by decide))))) key) (oks_one (.sign (by decide)))
    · exact oks_app (oks_app (oks_cons (.word (by decide)) (oks_cons (.name hx) (oks_one (.sign (by decide))))) key) (oks_one (.sign (by decide)))
  | call x cons kids hx h2 hc h3 h4 hk ih =>
    intro hr; rw [words_eq]
    exact oks_app (oks_app (oks_app (oks_app (oks_one (.name hx)) (oks_br (fun c h => .name (hc c h)))) (oks_one (.sign (by decide)))) (oks_sep (.sign (by decide)) (fun z hz => by
      obtain ⟨k, hk', rfl⟩ := List.mem_map.1 hz
      exact ih k hk' (hr.kids k hk')))) (oks_one (.sign (by decide)))
  | every a b hop ga gb iha ihb =>
    intro hr; rw [words_eq]
    exact oks_btw (iha (hr.kids a (by simp [eEvery, PExpr.kids]))) (.word (by decide)) (ihb (hr.kids b (by simp [eEvery, PExpr.kids])))
theorem oks_names {l : List Str} (h : NmL l) : Oks (namesW l) :=
  oks_app (oks_app (oks_one (.sign (by decide))) (oks_list (.sign (by decide)) (fun x hx => .name (h.2 x hx)))) (oks_one (.sign (by decide)))
theorem oks_eq {q : PEq} (h : GoodQ q) : Oks (eqW q) := by
  have hh : Oks (headW q.names) := by
    have hn := h.n
    unfold headW
    split
    · rename_i x hx; exact oks_one (.name (hn.2 x (by rw [hx]; simp)))
    · exact oks_names hn
  exact oks_app (oks_app (oks_app hh (oks_one (.sign (by decide)))) (good_oks h.e.g h.e.r)) (oks_one (.sign (by decide)))
theorem oks_flat {α : Type} {f : α → List Str} {l : List α} (h : ∀ x ∈ l, Oks (f x)) : Oks (l.flatMap f) := fun w hw => by
  obtain ⟨x, hx, hw⟩ := List.mem_flatMap.1 hw
  exact h x hx w hw
theorem oks_state {s : PState} (h : GoodS s) : Oks (stateW s) :=
  oks_app (oks_app (oks_cons (.word (by decide)) (oks_cons (.con h.n) (oks_one (.sign (by decide))))) (oks_flat fun q hq => oks_eq (h.q q hq)))
    (oks_flat fun w hw => oks_app (oks_app (oks_one (.word (by decide))) (good_oks (h.w w hw).e.g (h.w w hw).e.r)) (oks_cons (.word (by decide)) (oks_cons (.con (h.w w hw).t) (oks_one (.sign (by decide))))))
theorem oks_item {x : PItem} (h : GoodI x) : Oks (itemW x) := by
  unfold itemW
  split
  · rename_i hz; exact oks_eq (h.q (List.eq_nil_of_length_eq_zero hz))
  · exact oks_app (oks_app (oks_one (.word (by decide))) (oks_flat fun s hs => oks_state (h.s s hs))) (oks_cons (.word (by decide)) (oks_one (.sign (by decide))))
theorem oks_node {x : PNode} (h : GoodN x) : Oks (nodeW x) :=
  oks_app (oks_app (oks_app (oks_app (oks_app (oks_app (oks_app (oks_cons (.word (by decide)) (oks_one (.name h.n))) (oks_br fun s hs => .name (h.f s hs))) (oks_names h.i)) (oks_one (.sign (by decide)))) (oks_names h.u)) (oks_one (.word (by decide)))) (oks_flat fun y hy => oks_item (h.t y hy))) (oks_one (.word (by decide)))
theorem oks_enum {x : PEnum} (h : GoodT x) : Oks (enumW x) :=
  oks_app (oks_app (oks_cons (.word (by decide)) (oks_cons (.name h.n) (oks_one (.sign (by decide))))) (oks_list (.sign (by decide)) fun c hc => .con (h.c.2 c hc))) (oks_one (.sign (by decide)))
theorem oks_prog {p : PProg} (h : GoodP p) : Oks (progW p) := oks_app (oks_flat fun x hx => oks_enum (h.t x hx)) (oks_flat fun x hx => oks_node (h.n x hx))
def noB (w : Str) : Prop := w ≠ [] ∧ ∀ c ∈ w, c ≠ 32
theorem wok_noB {w : Str} (h : WOk w) : noB w := by
  cases h with
  | name h =>
    simp only [isNameB, Bool.and_eq_true] at h
    obtain ⟨c, r, rfl, _, _, hs⟩ := shaped_cons h.1
    exact ⟨by simp, no_blank_inner _ hs⟩
  | con h =>
    obtain ⟨c, r, rfl, _, _, hs⟩ := shaped_cons h
    exact ⟨by simp, no_blank_inner _ hs⟩
  | word h => 
    have : ∀ x ∈ wordL, x ≠ [] ∧ ∀ c ∈ x, c ≠ 32 := by decide
    exact this _ h
  | sign h =>
    have : ∀ x ∈ signL, x ≠ [] ∧ ∀ c ∈ x, c ≠ 32 := by decide
    exact this _ h
  | int n h0 h1 =>
    obtain ⟨a, _, c⟩ := decB_pos h0 h1
    refine ⟨c, fun x hx e => ?_⟩
    subst e
    have := List.all_eq_true.1 a 32 hx
    revert this; decide
theorem split_blank : ∀ (x y : Str) (a b : Str), (∀ c ∈ x, c ≠ 32) → (∀ c ∈ y, c ≠ 32) → x ++ 32 :: a = y ++ 32 :: b → x = y ∧ a = b
  | [], [], a, b, _, _, h => by simp at h; exact ⟨rfl, h⟩
  | [], c :: y, a, b, _, hy, h => by simp at h; exact absurd h.1.symm (hy c (by simp))
  | c :: x, [], a, b, hx, _, h => by simp at h; exact absurd h.1 (hx c (by simp))
  | c :: x, d :: y, a, b, hx, hy, h => by
    simp only [List.cons_append, List.cons.injEq] at h
    obtain ⟨h1, h2⟩ := split_blank x y a b (fun z hz => hx z (by simp [hz])) (fun z hz => hy z (by simp [hz])) h.2
    rw [h.1, h1, h2]; exact ⟨rfl, rfl⟩
theorem J_inj : ∀ (l m : List Str), l ≠ [] → m ≠ [] → (∀ w ∈ l, noB w) → (∀ w ∈ m, noB w) → J l = J m → l = m
  | [], _, h, _, _, _, _ => absurd rfl h
  | _, [], _, h, _, _, _ => absurd rfl h
  | [x], [y], _, _, _, _, h => by rw [J_one, J_one] at h; rw [h]
  | [x], y :: z :: q, _, _, hx, _, h => by
    rw [J_one, J_cons y _ (by simp)] at h
    exact absurd rfl ((hx x (by simp)).2 32 (by rw [h]; simp))
  | x :: z :: q, [y], _, _, _, hy, h => by
    rw [J_one, J_cons x _ (by simp)] at h
    exact absurd rfl ((hy y (by simp)).2 32 (by rw [← h]; simp))
  | x :: z :: q, y :: w :: r, _, _, hx, hy, h => by
    rw [J_cons x _ (by simp), J_cons y _ (by simp)] at h
    obtain ⟨h1, h2⟩ := split_blank x y _ _ (hx x (by simp)).2 (hy y (by simp)).2 h
    rw [h1, J_inj (z :: q) (w :: r) (by simp) (by simp) (fun u hu => hx u (by simp [hu])) (fun u hu => hy u (by simp [hu])) h2]
theorem node_ne (p : PProg) (h : rightI false p = 0) : progW p ≠ [] := by
  obtain ⟨h1, _⟩ := right_zero h
  unfold progB at h1
  simp only [Bool.and_eq_true, Bool.not_eq_true', beq_eq_false_iff_ne, ne_eq] at h1
  obtain ⟨⟨⟨⟨_, h1⟩, _⟩, _⟩, _⟩ := h1
  cases hn : p.nodes with
  | nil => rw [hn] at h1; simp at h1
  | cons x l => unfold progW; rw [hn]; simp [nodeW]
theorem text_inj {p q : PProg} (hp : rightI false p = 0) (hq : rightI false q = 0) (rp : p.Rng) (rq : q.Rng) (bp : p.bulk ≤ 1048576) (bq : q.bulk ≤ 1048576) (h : J (progW p) = J (progW q)) : p = q := by
  have gp := goodP_of hp rp (by unfold lenTop; omega)
  have gq := goodP_of hq rq (by unfold lenTop; omega)
  exact prog_inj gp gq (J_inj _ _ (node_ne p hp) (node_ne q hq) (fun w hw => wok_noB (oks_prog gp w hw)) (fun w hw => wok_noB (oks_prog gq w hw)) h)
theorem good_ne {e : PExpr} (g : Good e) : e.words ≠ [] := by
  cases g with
  | arms op x cons kids hop => rw [words_eq]; rcases hop with rfl | rfl <;> simp [wordsOf, armsW, PExpr.op]
  | call x cons kids => rw [words_eq]; simp [wordsOf, callW, PExpr.op]
  | _ => rw [words_eq]; intro h; cases h
theorem show_inj {a b : PExpr} (ha : GoodE a) (hb : GoodE b) (h : J a.words = J b.words) : a = b :=
  expr_inj ha hb (J_inj _ _ (good_ne ha.g) (good_ne hb.g) (fun w hw => wok_noB (good_oks ha.g ha.r w hw)) (fun w hw => wok_noB (good_oks hb.g hb.r w hw)) h)
end Go.Ab
