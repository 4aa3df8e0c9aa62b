/- The parser: operands and what stands behind them. -/
import Derived.Test.YtngklkmeknmloaaGreatDoorAbPrX
import Derived.Test.YtngklkmeknmloaaGreatDoorAbInv
set_option linter.unusedSimpArgs false
set_option linter.unusedVariables false
set_option maxRecDepth 100000
set_option maxHeartbeats 4000000
open Go.Proofs
namespace Go.Ab
open Go Go.Ab.Tab
theorem met3 {f : FuncId} {rest : List AVal} {x y : List AVal} {v : AVal} (g : qbg C f (.ptr 0 0 :: rest) [.box x] v [.box y]) (hr : qad rest = []) (px : qad x = []) (py : qad y = []) (hv : refs v = []) :
 ∃ E : qaa → Eff,(∀ H,qak C (.box x :: H) f (.ptr 0 0 :: rest) = some (.ret v (E H))) ∧ (∀ H,(E H).of (.box x :: H) = .box y :: H) ∧ ∀ H b,0 < b → b < H.length + 1 → (E H).dirt.contains b = false := by
 obtain ⟨e,he,hof⟩ := id g
 have h : ∀ H,qak C (.box x :: H) f (.ptr 0 0 :: rest) = some (.ret v (qhv (.box x :: H) [0] e)) := by
  intro H
  have ha : qad (.ptr 0 0 :: rest) = [0] := by simp [qad,refs,hr]
  unfold qak
  have hidx : qc5 (.box x :: H) 256 (qad (.ptr 0 0 :: rest)) [] = [0] := by rw [ha]; simp [qc5,px]
  have e1 : subH (.box x :: H) [0] = [.box x] := by simp [subH,renB,qb6 px]
  have e2 : renL (fun x => [0].idxOf x) (.ptr 0 0 :: rest) = .ptr 0 0 :: rest := by
   simp only [renL,ren,qb6 hr]; simp
  simp only [hidx]
  rw [if_pos (by unfold qeh; simp [ha,qet,px]),e1,e2,he]
  simp only
  rw [qgn v (by rw [hv]; simp)]
 refine ⟨_,h,fun H => ?_,fun H b h1 h2 => ?_⟩
 ·obtain ⟨E,hE,hh⟩ := qds qaj (b := 0) (H := .box x :: H) hr rfl px py g hv
  rw [h H] at hE
  cases hE
  exact hh
 ·cases e with
  | same => rfl
  | heap h' d =>
   simp only [qhv,Eff.dirt,List.contains_eq_mem,decide_eq_false_iff_not,List.mem_map,not_exists,not_and]
   intro i _ hi
   unfold qey at hi
   simp only [List.length_cons,List.length_nil] at hi
   split at hi
   ·have : i = 0 := by omega
    subst this
    simp at hi
    omega
   ·omega
theorem RdE.m3 {f : FuncId} {rest : List AVal} {ts ts' : List PTok} {d : Nat} {e : PExpr} (h : RdE f rest ts d e ts') (hr : qad rest = []) :
 ∃ E : qaa → Eff,(∀ H,qak C (.box (pbox ts d) :: H) f (.ptr 0 0 :: rest) = some (.ret (.agg e.cells) (E H))) ∧ (∀ H,(E H).of (.box (pbox ts d) :: H) = .box (pbox ts' d) :: H) ∧ ∀ H b,0 < b → b < H.length + 1 → (E H).dirt.contains b = false :=
 met3 h hr (qab _ _) (qab _ _) (by simp only [refs]; exact e.norefs)
theorem node1 (op : Int) (k : PExpr) : Ret C 153 [.int .i64 op,.slice [k.cells] .full] (.agg (PExpr.mk op [] 0 [] [k]).cells) := qx4 op [k] (by simp [qac])
theorem qt6 (op : Int) (k l : PExpr) : Ret C 153 [.int .i64 op,.slice [k.cells,l.cells] .full] (.agg (PExpr.mk op [] 0 [] [k,l]).cells) := qx4 op [k,l] (by simp [qac])
theorem node3 (op : Int) (k l m : PExpr) : Ret C 153 [.int .i64 op,.slice [k.cells,l.cells,m.cells] .full] (.agg (PExpr.mk op [] 0 [] [k,l,m]).cells) := qx4 op [k,l,m] (by simp [qac])
theorem mk_c (op : Int) (name : Str) (n : Int) (cons : List Str) (kids : List PExpr) (tk tk' : Tk) : [AVal.int .i64 op,.str name,.int .i64 n,.slice (cons.map fun s => [.str s]) tk,.slice (kids.map PExpr.cells) tk'].map qba = (PExpr.mk op name n cons kids).cells := by
 rw [PExpr.cells_eq]; rfl
theorem prefix_c {m : Nat} {R : Rd} (hR : HypE R) {d : Nat} {ts ts' : List PTok} {e : PExpr} (hT : TsOk ts) (hS : qex m R d ts = .ok e ts' → TsOk ts' ∧ RdE 247 [] ts d e ts') (h : qjw m R d ts = .ok e ts') :
 TsOk ts' ∧ RdE 213 [] ts d e ts' := by
 unfold qjw at h
 unfold RdE
 obtain ⟨t,r,rfl⟩ := hT.ne
 by_cases h1 : hasS [110,111,116] (t :: r) = true
 ·rw [if_pos h1] at h
  obtain ⟨_,_,hc,hTr,_,_⟩ := hT.hasS h1
  cases hc
  obtain ⟨k,ts1,hk,hf⟩ := PR.bind_ok h
  cases hf
  obtain ⟨hT',hu,_⟩ := hR _ _ _ _ _ hTr hk
  refine ⟨hT',?_⟩
  obtain ⟨E,e1,e2⟩ := ql8 t r d
  obtain ⟨E',u1,u2⟩ := (hu rfl).m rfl
  have q1 := qma h1
  have hs := qt5 h1
  refine qa1 rfl Tryz.func213 rfl (by kernel_rfl) (m := 48) rfl ?_; simp only [Z3,Nat.reduceAdd,Nat.reduceBEq,Int.reduceBEq,Int.reduceBNe,Int.reduceLT,Int.reduceLE,Tryz.f213,qpo,effs,qep,q1,e1,e2,u1,u2]
  exact qed (ts := ts') (d := d) (.inl rfl) rfl rfl (by rw [hs]; exact mk_c 5 _ 0 [] [k] .full .full) rfl rfl
 have b1 := Bool.eq_false_iff.2 h1
 rw [if_neg h1] at h
 have q1 := qlf (s := [110,111,116]) (by decide) b1
 by_cases h2 : hasS [45] (t :: r) = true
 ·rw [if_pos h2] at h
  obtain ⟨_,_,hc,hTr,_,_⟩ := hT.hasS h2
  cases hc
  obtain ⟨k,ts1,hk,hf⟩ := PR.bind_ok h
  cases hf
  obtain ⟨hT',hu,_⟩ := hR _ _ _ _ _ hTr hk
  refine ⟨hT',?_⟩
  obtain ⟨E,e1,e2⟩ := ql8 t r d
  obtain ⟨E',u1,u2⟩ := (hu rfl).m rfl
  have q2 := qma h2
  have hs := qt5 h2
  refine qa1 rfl Tryz.func213 rfl (by kernel_rfl) (m := 48) rfl ?_; simp only [Z3,Nat.reduceAdd,Nat.reduceBEq,Int.reduceBEq,Int.reduceBNe,Int.reduceLT,Int.reduceLE,Tryz.f213,qpo,effs,qep,q1,q2,e1,e2,u1,u2]
  exact qed (ts := ts') (d := d) (.inl rfl) rfl rfl (by rw [hs]; exact mk_c 5 _ 0 [] [k] .full .full) rfl rfl
 have b2 := Bool.eq_false_iff.2 h2
 rw [if_neg h2] at h
 have q2 := qlf (s := [45]) (by decide) b2
 by_cases h3 : hasS [112,114,101] (t :: r) = true
 ·rw [if_pos h3] at h
  obtain ⟨_,_,hc,hTr,_,_⟩ := hT.hasS h3
  cases hc
  obtain ⟨k,ts1,hk,hf⟩ := PR.bind_ok h
  cases hf
  obtain ⟨hT',hu,_⟩ := hR _ _ _ _ _ hTr hk
  refine ⟨hT',?_⟩
  obtain ⟨E,e1,e2⟩ := ql8 t r d
  obtain ⟨E',u1,u2⟩ := (hu rfl).m rfl
  have q3 := qma h3
  refine qa1 rfl Tryz.func213 rfl (by kernel_rfl) (m := 48) rfl ?_; simp only [Z3,Nat.reduceAdd,Nat.reduceBEq,Int.reduceBEq,Int.reduceBNe,Int.reduceLT,Int.reduceLE,Tryz.f213,qpo,effs,qep,q1,q2,q3,e1,e2,u1,u2,node1 _ _ _]
  exact qed (ts := ts') (d := d) (.inl rfl) rfl rfl (qhu _) rfl rfl
 have b3 := Bool.eq_false_iff.2 h3
 rw [if_neg h3] at h
 have q3 := qlf (s := [112,114,101]) (by decide) b3
 by_cases h4 : hasS [105,102] (t :: r) = true
 ·rw [if_pos h4] at h
  obtain ⟨_,_,hc,hTr,_,_⟩ := hT.hasS h4
  cases hc
  obtain ⟨a,ts1,ha,h⟩ := PR.bind_ok h
  obtain ⟨hT1,ra⟩ := qfp hR hTr ha
  obtain ⟨w1,h⟩ := qa2 h
  obtain ⟨t1,r1,hc,hT1',_,_⟩ := hT1.hasS w1
  subst hc
  obtain ⟨b,ts2,hb,h⟩ := PR.bind_ok h
  obtain ⟨hT2,rb⟩ := qfp hR hT1' hb
  obtain ⟨w2,h⟩ := qa2 h
  obtain ⟨t2,r2,hc,hT2',_,_⟩ := hT2.hasS w2
  subst hc
  obtain ⟨c,ts3,hc,h⟩ := PR.bind_ok h
  obtain ⟨hT3,rc⟩ := qfp hR hT2' hc
  cases h
  refine ⟨hT3,?_⟩
  obtain ⟨E,e1,e2⟩ := ql8 t r d
  obtain ⟨Ea,a1,a2⟩ := ra.m rfl
  obtain ⟨Ew,v1,v2⟩ := qdn _ t1 r1 d w1
  obtain ⟨Eb,c1,c2⟩ := rb.m rfl
  obtain ⟨Ex,x1,x2⟩ := qdn _ t2 r2 d w2
  obtain ⟨Ec,y1,y2,y3⟩ := rc.m3 rfl
  have q4 := qma h4
  refine qa1 rfl Tryz.func213 rfl (by kernel_rfl) (m := 48) rfl ?_; simp only [Z3,Nat.reduceAdd,Nat.reduceBEq,Int.reduceBEq,Int.reduceBNe,Int.reduceLT,Int.reduceLE,Tryz.f213,qpo,effs,qep,q1,q2,q3,q4,e1,e2,a1,a2,v1,v2,c1,c2,x1,x2,y1,y2,bs35_3,kidsV_3,node3 _ _ _ _ _]
  rw [qfv]
  ·simp only [Z3,Nat.reduceAdd,Nat.reduceBEq,Int.reduceBEq,Int.reduceBNe,Int.reduceLT,Int.reduceLE,effs,qpo,bs35_3,kidsV_3,node3 _ _ _ _ _,y2]
   exact qed (ts := ts') (d := d) (.inl rfl) rfl rfl (qhu _) rfl rfl
  ·kernel_rfl
  ·have z2 := y3 [Blk.box qb5,Blk.box a.cells,Blk.box b.cells] 2 (by omega) (by simp)
   have z3 := y3 [Blk.box qb5,Blk.box a.cells,Blk.box b.cells] 3 (by omega) (by simp)
   unfold qb5 at z2 z3
   simp only [qal,qcf,qae,qei,z2,z3,Bool.not_false,Bool.or_true,Bool.and_true,List.getElem?_cons_succ,List.getElem?_cons_zero]
 have b4 := Bool.eq_false_iff.2 h4
 rw [if_neg h4] at h
 have q4 := qlf (s := [105,102]) (by decide) b4
 obtain ⟨hT',rs⟩ := hS h
 refine ⟨hT',?_⟩
 obtain ⟨E',u1,u2⟩ := rs.m rfl
 refine qa1 rfl Tryz.func213 rfl (by kernel_rfl) (m := 48) rfl ?_; simp only [Z3,Nat.reduceAdd,Nat.reduceBEq,Int.reduceBEq,Int.reduceBNe,Int.reduceLT,Int.reduceLE,Tryz.f213,qpo,effs,qep,q1,q2,q3,q4,u1,u2]
 exact qed (ts := ts') (d := d) (.inl rfl) rfl rfl (qhu _) rfl rfl
end Go.Ab
namespace Go.Ab
open Go Go.Ab.Tab
def PExpr.cellsT (e : PExpr) (t : Tk) : List AVal := [.int .i64 e.op,.str e.name,.int .i64 e.n,.slice (e.cons.map fun s => [.str s]) t,.slice (e.kids.map PExpr.cells) t]
theorem q3j (e : PExpr) : e.cells = e.cellsT .free := by rw [e.cells_eq]; rfl
theorem qkn (e : PExpr) (t : Tk) : (e.cellsT t).map qba = e.cells := by rw [e.cells_eq]; rfl
theorem qib (a b : PExpr) (t : Tk) : kidsV 2 [.agg [.int .i64 a.op,.str a.name,.int .i64 a.n,.slice (a.cons.map fun s => [.str s]) t,.slice (a.kids.map PExpr.cells) t],.agg b.cells] = some (.val (.slice [a.cells,b.cells] .full) .same) := by
 rw [a.cells_eq,b.cells_eq]; rfl
theorem qg6 {c : Prop} [Decidable c] {a b k : Nat} (h1 : a ≤ k) (h2 : b ≤ k) : (if c then a else b) ≤ k := by split <;> assumption
theorem bind_le (s : Str) : qbo s ≤ 7 := by
 unfold qbo
 refine qg6 (by decide) ?_
 refine qg6 (by decide) ?_
 refine qg6 (by decide) ?_
 refine qg6 (by decide) ?_
 refine qg6 (by decide) ?_
 refine qg6 (by decide) ?_
 refine qg6 (by decide) ?_
 refine qg6 (by decide) ?_
 refine qg6 (by decide) ?_
 refine qg6 (by decide) ?_
 refine qg6 (by decide) ?_
 refine qg6 (by decide) ?_
 exact qg6 (by decide) (by decide)
theorem qzc {t : PTok} {r : List PTok} (h : qbo (qa4 (t :: r)) ≠ 0) : t.sort ≠ 6 := by
 intro h6
 apply h
 simp only [qa4,h6]
 rfl
theorem qvi {R : Rd} (hR : HypE R) {o least : Nat} (hl : 0 < least) {e : PExpr} {ts' : List PTok} : ∀ (n most : Nat) (left : PExpr) (ts : List PTok),TsOk ts → qe8 R o least n most left ts = .ok e ts' → TsOk ts'
 | 0,_,_,_,_,h => by cases h
 | n + 1,most,left,ts,hT,h => by
  obtain ⟨t,r,rfl⟩ := hT.ne
  simp only [qe8] at h
  split at h
  ·cases h; exact hT
  ·rename_i hb
   have hne : qbo (qa4 (t :: r)) ≠ 0 := by omega
   have hTr : TsOk r := hT.tail (qzc hne)
   split at h
   ·obtain ⟨k,ts1,hk,h⟩ := PR.bind_ok h
    cases h
    exact (hR _ _ _ _ _ hTr hk).1
   ·split at h
    ·obtain ⟨k,ts1,hk,h⟩ := PR.bind_ok h
     exact qvi hR hl n _ _ _ (hR _ _ _ _ _ hTr hk).1 h
    ·obtain ⟨k,ts1,hk,h⟩ := PR.bind_ok h
     exact qvi hR hl n _ _ _ (hR _ _ _ _ _ hTr hk).1 h
theorem unary_c {o : Nat} {ts ts' : List PTok} {e : PExpr} (ho : o < 100) (hp : RdE 213 [] ts (o + 1) e ts') : RdE 151 [] ts o e ts' := by
 obtain ⟨E,u1,u2⟩ := hp.m rfl
 have v1 : ∀ H,qak C (.box [.slice (ts.map PTok.cells) .free,.int .i64 ((o : Int) + 1)] :: H) 213 [.ptr 0 0] = some (.ret (.agg e.cells) (E H)) := u1
 have v2 : ∀ H,(E H).of (.box [.slice (ts.map PTok.cells) .free,.int .i64 ((o : Int) + 1)] :: H) = .box [.slice (ts'.map PTok.cells) .free,.int .i64 ((o : Int) + 1)] :: H := u2
 have w1 : qeb .i64 ((o : Int) + 1) = (o : Int) + 1 := ql1 (by omega) (by omega)
 have w2 : qeb .i64 ((o : Int) + 1 - 1) = (o : Int) := by rw [show (o : Int) + 1 - 1 = o by omega]; exact ql1 (by omega) (by omega)
 have d1 : decide ((100 : Int) < (o : Int) + 1) = false := decide_eq_false (by omega)
 unfold RdE
 refine qa1 rfl Tryz.func151 rfl (by kernel_rfl) (m := 27) rfl ?_; simp only [Z3,Nat.reduceAdd,Nat.reduceBEq,Int.reduceBEq,Int.reduceBNe,Int.reduceLT,Int.reduceLE,Tryz.f151,fx_151,effs,pbox,w1,w2,d1,v1,v2]
 exact qed (ts := ts') (d := o) (.inl rfl) rfl rfl (qhu e) rfl rfl
structure InSt where
 n : Nat
 most : Nat
 left : PExpr
 tk : Tk
 ts : List PTok
theorem infix_c {N : Nat} {R : Rd} (hR : HypE R) {o least : Nat} {ts ts1 ts' : List PTok} {left e : PExpr} (hpos : 0 < least) (hT : TsOk ts) (hu : R o 0 ts = .ok left ts1) (hloop : qe8 R o least N 7 left ts1 = .ok e ts') :
 RdE 99 [.int .i64 least] ts o e ts' := by
 obtain ⟨hT1,ru,_⟩ := hR _ _ _ _ _ hT hu
 obtain ⟨E,u1,u2⟩ := (ru rfl).m rfl
 unfold RdE
 refine qa1 rfl Tryz.func99 rfl (by kernel_rfl) (m := 52) rfl ?_; simp only [Z3,Nat.reduceAdd,Nat.reduceBEq,Int.reduceBEq,Int.reduceBNe,Int.reduceLT,Int.reduceLE,Tryz.f99,qjd,effs,u1,u2]
 generalize hb : qan PP cmp0 C lpC _ = f; generalize hl : lpC f _ = r
 obtain ⟨ex,s',rfl,⟨rfl,tk',h2⟩⟩ := qfo (α := InSt) hl [7,8,11,12,13,14,15,16,17,18,19,20,21,22,23,24,25,26,27,28,29,30,31,32,33,34,35,36,37,38,39,40,41,42,43,44,45,46,47,48,49,50,51,52,53] (fun a => [(6,.int .i64 a.most)]) (fun a => [.box (pbox a.ts o),.box qb5,.box (a.left.cellsT a.tk)]) (fun a => TsOk a.ts ∧ qe8 R o least a.n a.most a.left a.ts = .ok e ts') (fun a => a.n) (fun _ => ())
  (fun ts _ ex s => ex = .ret ∧ ∃ tk,At [6,7,8,11,12,13,14,15,16,17,18,19,20,21,22,23,24,25,26,27,28,29,30,31,32,33,34,35,36,37,38,39,40,41,42,43,44,45,46,47,48,49,50,51,52,53] ts [.box (pbox ts' o),.box (e.cellsT tk)] [] s) ⟨N,7,left,.free,ts1⟩ ⟨hT1,hloop⟩ (by rw [q3j]; exact At.of [] (by simp only [ats]; rfl) (by simp only [List.append_nil]; rfl)) (by
   rintro ⟨n,most,left,tk,ts⟩ j H d ⟨hTs,hp⟩
   clear hl; subst hb
   simp only at hTs hp ⊢
   cases n with
   | zero => cases hp
   | succ n =>
    obtain ⟨t,r,rfl⟩ := hTs.ne
    simp only [qe8] at hp
    have hbl := bind_le (qa4 (t :: r))
    have cb := bind_c (qa4 (t :: r))
    by_cases hb1 : qbo (qa4 (t :: r)) < least ∨ most < qbo (qa4 (t :: r))
    ·rw [if_pos hb1] at hp
     cases hp
     by_cases hb2 : qbo (qa4 (t :: r)) < least
     ·have d1 : decide (((qbo (qa4 (t :: r)) : Nat) : Int) < (least : Int)) = true := decide_eq_true (by omega)
      simp only [Z3,Nat.reduceAdd,Nat.reduceBEq,Int.reduceBEq,Int.reduceBNe,Int.reduceLT,Int.reduceLE,effs,qjd,PExpr.cellsT,qb5,qep,cb _,d1]
      exact .inr ⟨_,_,rfl,by simp,rfl,tk,At.of _ (by simp only [ats,Int.natCast_zero]) (by simp only [List.cons_append,List.append_assoc,List.nil_append]; rfl)⟩
     ·have d1 : decide (((qbo (qa4 (t :: r)) : Nat) : Int) < (least : Int)) = false := decide_eq_false (by omega)
      have d2 : decide ((most : Int) < ((qbo (qa4 (t :: r)) : Nat) : Int)) = true := decide_eq_true (by omega)
      simp only [Z3,Nat.reduceAdd,Nat.reduceBEq,Int.reduceBEq,Int.reduceBNe,Int.reduceLT,Int.reduceLE,effs,qjd,PExpr.cellsT,qb5,qep,cb _,d1,d2]
      exact .inr ⟨_,_,rfl,by simp,rfl,tk,At.of _ (by simp only [ats,Int.natCast_zero]) (by simp only [List.cons_append,List.append_assoc,List.nil_append]; rfl)⟩
    ·rw [if_neg hb1] at hp
     have hne : qbo (qa4 (t :: r)) ≠ 0 := by omega
     have hTr := hTs.tail (qzc hne)
     have d1 : decide (((qbo (qa4 (t :: r)) : Nat) : Int) < (least : Int)) = false := decide_eq_false (by omega)
     have d2 : decide ((most : Int) < ((qbo (qa4 (t :: r)) : Nat) : Int)) = false := decide_eq_false (by omega)
     obtain ⟨Es,s1,s2⟩ := ql8 t r o
     by_cases q1 : qbo (qa4 (t :: r)) = 1
     ·rw [if_pos q1] at hp
      obtain ⟨k,ts2,hk,hp⟩ := PR.bind_ok hp
      cases hp
      obtain ⟨_,_,rk⟩ := hR _ _ _ _ _ hTr hk
      have rk' : RdE 99 [.int .i64 1] r o k ts' := rk (by omega)
      obtain ⟨Ek,y1,y2,y3⟩ := rk'.m3 rfl
      have e1 : (((qbo (qa4 (t :: r)) : Nat) : Int) == 1) = true := by rw [q1]; rfl
      simp only [Z3,Nat.reduceAdd,Nat.reduceBEq,Int.reduceBEq,Int.reduceBNe,Int.reduceLT,Int.reduceLE,effs,qjd,PExpr.cellsT,qb5,qep,cb _,d1,d2,s1,s2,e1,y1,y2,qlr,qib,qt6 _ _ _ _]
      rw [qfv]
      ·simp only [Z3,Nat.reduceAdd,Nat.reduceBEq,Int.reduceBEq,Int.reduceBNe,Int.reduceLT,Int.reduceLE,effs,qjd,y2,qt6 _ _ _ _]
       exact .inr ⟨_,_,rfl,by simp,rfl,.free,At.of _ (by simp only [ats] <;> rfl) (by simp only [List.cons_append,List.append_assoc,List.nil_append] <;> rfl)⟩
      ·kernel_rfl
      ·have z2 := y3 (Blk.box qb5 :: Blk.box (left.cellsT tk) :: H) 2 (by omega) (by simp)
       unfold qb5 PExpr.cellsT at z2
       simp only [qal,qcf,qae,qei,z2,Bool.not_false,Bool.or_true,Bool.and_true,List.getElem?_cons_succ,List.getElem?_cons_zero]
     ·rw [if_neg q1] at hp
      have e1 : (((qbo (qa4 (t :: r)) : Nat) : Int) == 1) = false := by simp; omega
      by_cases q2 : qbo (qa4 (t :: r)) = 2
      ·rw [if_pos q2] at hp
       obtain ⟨k,ts2,hk,hp⟩ := PR.bind_ok hp
       obtain ⟨hT2,_,rk⟩ := hR _ _ _ _ _ hTr hk
       have rk' : RdE 99 [.int .i64 2] r o k ts2 := rk (by omega)
       obtain ⟨Ek,y1,y2,y3⟩ := rk'.m3 rfl
       have e2 : (((qbo (qa4 (t :: r)) : Nat) : Int) == 2) = true := by rw [q2]; rfl
       simp only [Z3,Nat.reduceAdd,Nat.reduceBEq,Int.reduceBEq,Int.reduceBNe,Int.reduceLT,Int.reduceLE,effs,qjd,PExpr.cellsT,qb5,qep,cb _,d1,d2,s1,s2,e1,e2,y1,y2,qlr,qib,qt6 _ _ _ _]
       rw [qfv]
       ·simp only [Z3,Nat.reduceAdd,Nat.reduceBEq,Int.reduceBEq,Int.reduceBNe,Int.reduceLT,Int.reduceLE,effs,qjd,y2,qt6 _ _ _ _]
        exact .inl ⟨⟨n,1,eFby left k,.free,ts2⟩,_,rfl,⟨hT2,hp⟩,At.of _ (by simp only [ats] <;> rfl) (by simp only [List.cons_append,List.append_assoc,List.nil_append] <;> rfl),by simp only []; omega,trivial⟩
       ·kernel_rfl
       ·have z2 := y3 (Blk.box qb5 :: Blk.box (left.cellsT tk) :: H) 2 (by omega) (by simp)
        unfold qb5 PExpr.cellsT at z2
        simp only [qal,qcf,qae,qei,z2,Bool.not_false,Bool.or_true,Bool.and_true,List.getElem?_cons_succ,List.getElem?_cons_zero]
      ·rw [if_neg q2] at hp
       have e2 : (((qbo (qa4 (t :: r)) : Nat) : Int) == 2) = false := by simp; omega
       obtain ⟨k,ts2,hk,hp⟩ := PR.bind_ok hp
       obtain ⟨hT2,_,rk⟩ := hR _ _ _ _ _ hTr hk
       have rk' : RdE 99 [.int .i64 (((qbo (qa4 (t :: r)) : Nat) : Int) + 1)] r o k ts2 := rk (by omega)
       obtain ⟨Ek,y1,y2,y3⟩ := rk'.m3 rfl
       have w1 : qeb .i64 (((qbo (qa4 (t :: r)) : Nat) : Int) + 1) = ((qbo (qa4 (t :: r)) : Nat) : Int) + 1 := ql1 (by omega) (by omega)
       by_cases q5 : qbo (qa4 (t :: r)) = 5
       ·rw [if_pos q5] at hp
        have e5 : (((qbo (qa4 (t :: r)) : Nat) : Int) == 5) = true := by rw [q5]; rfl
        have w5 : qeb .i64 (((qbo (qa4 (t :: r)) : Nat) : Int) - 1) = 4 := by rw [q5]; rfl
        simp only [Z3,Nat.reduceAdd,Nat.reduceBEq,Int.reduceBEq,Int.reduceBNe,Int.reduceLT,Int.reduceLE,effs,qjd,PExpr.cellsT,qb5,qep,cb _,d1,d2,s1,s2,e1,e2,w1,y1,y2,qlr,qib]
        rw [qfv]
        ·simp only [Z3,Nat.reduceAdd,Nat.reduceBEq,Int.reduceBEq,Int.reduceBNe,Int.reduceLT,Int.reduceLE,effs,qjd,y2,qlr,qib,e5,w5]
         exact .inl ⟨⟨n,4,eBin (qa4 (t :: r)) left k,.full,ts2⟩,_,rfl,⟨hT2,hp⟩,At.of _ (by simp only [ats] <;> rfl) (by simp only [List.cons_append,List.append_assoc,List.nil_append] <;> rfl),by simp only []; omega,trivial⟩
        ·kernel_rfl
        ·have z2 := y3 (Blk.box qb5 :: Blk.box (left.cellsT tk) :: H) 2 (by omega) (by simp)
         unfold qb5 PExpr.cellsT at z2
         simp only [qal,qcf,qae,qei,z2,Bool.not_false,Bool.or_true,Bool.and_true,List.getElem?_cons_succ,List.getElem?_cons_zero]
       ·rw [if_neg q5] at hp
        have e5 : (((qbo (qa4 (t :: r)) : Nat) : Int) == 5) = false := by simp; omega
        simp only [Z3,Nat.reduceAdd,Nat.reduceBEq,Int.reduceBEq,Int.reduceBNe,Int.reduceLT,Int.reduceLE,effs,qjd,PExpr.cellsT,qb5,qep,cb _,d1,d2,s1,s2,e1,e2,w1,y1,y2,qlr,qib]
        rw [qfv]
        ·simp only [Z3,Nat.reduceAdd,Nat.reduceBEq,Int.reduceBEq,Int.reduceBNe,Int.reduceLT,Int.reduceLE,effs,qjd,y2,qlr,qib,e5]
         exact .inl ⟨⟨n,qbo (qa4 (t :: r)),eBin (qa4 (t :: r)) left k,.full,ts2⟩,_,rfl,⟨hT2,hp⟩,At.of _ (by simp only [ats] <;> rfl) (by simp only [List.cons_append,List.append_assoc,List.nil_append] <;> rfl),by simp only []; omega,trivial⟩
        ·kernel_rfl
        ·have z2 := y3 (Blk.box qb5 :: Blk.box (left.cellsT tk) :: H) 2 (by omega) (by simp)
         unfold qb5 PExpr.cellsT at z2
         simp only [qal,qcf,qae,qei,z2,Bool.not_false,Bool.or_true,Bool.and_true,List.getElem?_cons_succ,List.getElem?_cons_zero])
 obtain ⟨j,H,d,rfl⟩ := h2.elim
 clear hl
 simp only [Z3,Nat.reduceAdd,Nat.reduceBEq,Int.reduceBEq,Int.reduceBNe,Int.reduceLT,Int.reduceLE,effs,qjd]
 exact qed (ts := ts') (d := o) (.inl rfl) rfl rfl (qkn e tk') rfl rfl
end Go.Ab
namespace Go.Ab
open Go Go.Ab.Tab
def Grow2 (h : qaa) (v : AVal) (es : List (List AVal)) (T : TypeId) : Prop := v = .slice es .full ∨ ∃ t,v = .slice es (.own t) ∧ h[t]? = some (.tok es.length T)
theorem Grow2.set {h : qaa} {v : AVal} {es : List (List AVal)} {T : TypeId} {b : Nat} {x y : List AVal} (g : Grow2 h v es T) (hb : h[b]? = some (.box x)) : Grow2 (h.set b (.box y)) v es T := by
 rcases g with g | ⟨t,h1,h2⟩
 ·exact .inl g
 ·refine .inr ⟨t,h1,?_⟩
  rw [List.getElem?_set_ne (by rintro rfl; rw [hb] at h2; cases h2)]; exact h2
theorem qsr {P : Program} {t e sz : Nat} (ok : qe4 P t e sz) {h : qaa} {v : AVal} {es fs : List (List AVal)} (g : Grow2 h v es e) (hl : es.length + fs.length ≤ qac) (h1 : ∀ c ∈ es,c.length = sz) (h2 : ∀ c ∈ fs,c.length = sz) (hne : ¬ fs = []) :
 ∃ v' f,qc4 P h t v (.slice fs .full) = some (v',f) ∧ Grow2 (f.of h) v' (es ++ fs) e ∧ Boxes h (f.of h) := by
 rcases g with rfl | ⟨p,rfl,hp⟩
 ·refine ⟨_,_,qb7 h ok hl (qca h1) (qca h2) hne,.inr ⟨_,rfl,?_⟩,Boxes.app _ _⟩
  simp [Eff.of]
 ·refine ⟨_,_,qcm h ok hl (qca h1) (qca h2) hne hp rfl,.inr ⟨_,rfl,?_⟩,?_⟩
  ·simp only [Eff.of]
   rw [List.getElem?_set_self (List.getElem?_eq_some_iff.1 hp).1]
   simp
  ·intro k cs hk
   simp only [Eff.of]
   by_cases hkp : p = k
   ·subst hkp; rw [hp] at hk; cases hk
   ·rw [List.getElem?_set_ne hkp]; exact hk
theorem strs1 (l : List Str) : ∀ c ∈ l.map (fun s => [AVal.str s]),c.length = 1 := by
 intro c hc; obtain ⟨s,_,rfl⟩ := List.mem_map.1 hc; rfl
theorem qss {k : Int} {sep : Str} : ∀ (n : Nat) (ts ts' : List PTok) (l : List Str),qe6 k sep n ts = .ok l ts' → l.length + ts'.length ≤ ts.length
 | 0,_,_,_,h => by cases h
 | n + 1,ts,ts',l,h => by
  simp only [qe6] at h
  obtain ⟨t,r,rfl,_,h⟩ := qb0 h
  split at h
  ·obtain ⟨l1,ts1,h1,h⟩ := PR.bind_ok h
   cases h
   have := qss n _ _ _ h1
   rw [List.length_tail] at this
   simp only [List.length_cons]
   cases r with
   | nil => simp [hasS] at *
   | cons a b => simp only [List.length_cons] at *; omega
  ·cases h
   simp only [List.length_cons,List.length_nil]; omega
theorem q1l {k : Int} {sep : Str} (hk6 : k ≠ 6) : ∀ (n : Nat) (ts ts' : List PTok) (l : List Str),TsOk ts → qe6 k sep n ts = .ok l ts' → TsOk ts'
 | 0,_,_,_,_,h => by cases h
 | n + 1,ts,ts',l,hT,h => by
  simp only [qe6] at h
  obtain ⟨t,r,rfl,hs,h⟩ := qb0 h
  have hTr := hT.tail (by rw [hs]; exact hk6)
  split at h
  ·rename_i hh
   obtain ⟨l1,ts1,h1,h⟩ := PR.bind_ok h
   cases h
   obtain ⟨t2,r2,rfl,hT2,_,_⟩ := hTr.hasS hh
   exact q1l hk6 n _ _ _ hT2 h1
  ·cases h; exact hTr
theorem qoe {H : qaa} {x : Blk} (h : H[0]? = some x) : H.take 1 = [x] := by
 cases H with
 | nil => cases h
 | cons a b => simp at h; simp [h]
structure ListSt where
 n : Nat
 acc : List Str
 v : AVal
 ts : List PTok
theorem listS_c {k : Int} {g : FuncId} (hk6 : k ≠ 6) (d : Nat) (hg : ∀ t r,t.sort = k → qbg C g [.ptr 0 0] [.box (pbox (t :: r) d)] (.str t.text) [.box (pbox r d)]) (sep : Str) (hsep : sep ≠ []) {n : Nat} {ts ts' : List PTok} {l : List Str} (hT : TsOk ts) (h : qe6 k sep n ts = .ok l ts') :
 TsOk ts' ∧ qbg C 133 [.ptr 0 0,.str sep,.func g [.ptr 0 0] []] [.box (pbox ts d)] (.slice (l.map fun s => [.str s]) .free) [.box (pbox ts' d)] := by
 refine ⟨q1l hk6 n ts ts' l hT h,?_⟩
 cases n with
 | zero => cases h
 | succ n =>
  simp only [qe6] at h
  obtain ⟨t,rt,rfl,hs,h⟩ := qb0 h
  obtain ⟨E,e1,e2⟩ := met (hg t rt hs) rfl (qab _ _) (qab _ _) rfl
  have hTr := hT.tail (by rw [hs]; exact hk6)
  have hle := hTr.le
  refine qa1 rfl Tryz.func133 rfl (by kernel_rfl) (m := 17) rfl ?_; simp only [Z3,Nat.reduceAdd,Nat.reduceBEq,Int.reduceBEq,Int.reduceBNe,Int.reduceLT,Int.reduceLE,Tryz.f133,qwz,effs,e1,e2]
  generalize hb : qan PP cmp0 C lpC _ = f; generalize hl : lpC f _ = r
  obtain ⟨ex,s',rfl,rfl,tk,h2⟩ := qcv (α := ListSt) hl [11,12,13,14,15,16,17,18] (fun a => [(7,a.v)]) (fun a h => h[0]? = some (.box (pbox a.ts d)) ∧ Grow2 h a.v (a.acc.map fun s => [.str s]) 9 ∧ TsOk a.ts ∧ a.acc.length + a.ts.length ≤ 65538 ∧ (if hasS sep a.ts = true then (qe6 k sep a.n a.ts.tail).bind fun l2 ts2 => .ok (a.acc ++ l2) ts2 else .ok a.acc a.ts) = .ok l ts') (fun a => a.n) (fun _ => ())
   (fun ts _ ex s => ex = .exit 0 ∧ ∃ tk,OutT [11,12,13,14,15,16,17,18] ts [(7,.slice (l.map fun s => [.str s]) tk)] (fun g => g[0]? = some (.box (pbox ts' d))) s) ⟨n,[t.text],.slice [[.str t.text]] .full,rt⟩ ⟨rfl,.inl rfl,hTr,by simp only [List.length_cons,List.length_nil]; omega,h⟩ (by simp only [AtT,ats]) (by
    rintro ⟨n,acc,v,ts⟩ j G dd ⟨q0,hgr,hTs,hln,hp⟩
    clear hl; subst hb
    simp only at q0 hgr hTs hln hp ⊢
    obtain ⟨t,rt,rfl⟩ := hTs.ne
    cases hh : hasS sep (t :: rt)
    ·rw [hh] at hp
     simp only [Bool.false_eq_true,if_false] at hp
     cases hp
     have c1 := qcx (c := C) (b := 0) (H := G) (rest := [.str sep]) rfl q0 (qab _ _) (qjl sep hsep t rt d hh) rfl
     simp only [Z3,Nat.reduceAdd,Nat.reduceBEq,Int.reduceBEq,Int.reduceBNe,Int.reduceLT,Int.reduceLE,effs,qwz,c1]
     obtain ⟨tk,hv⟩ : ∃ tk,v = .slice (l.map fun s => [.str s]) tk := by
      rcases hgr with h | ⟨_,h,_⟩ <;> exact ⟨_,h⟩
     subst hv
     exact .inr ⟨_,_,rfl,by simp,rfl,tk,by simp only [OutT,AtT,ats],q0⟩
    ·rw [hh] at hp
     simp only [if_true,List.tail_cons] at hp
     cases n with
     | zero => cases hp
     | succ n =>
      obtain ⟨l2,ts2,h2,hp⟩ := PR.bind_ok hp
      cases hp
      obtain ⟨_,_,hc,hTr,_,_⟩ := hTs.hasS hh
      cases hc
      simp only [qe6] at h2
      obtain ⟨t2,r2,rfl,hs2,h2⟩ := qb0 h2
      obtain ⟨E1,hE1,hh1⟩ := qds qaj (b := 0) (H := G) (rest := [.str sep]) rfl q0 (qab _ _) (qab _ _) (qjm sep t (t2 :: r2) d hh) rfl
      have l0 := (List.getElem?_eq_some_iff.1 q0).1
      obtain ⟨g1,hg1⟩ : ∃ g1,g1 = G.set 0 (.box (pbox (t2 :: r2) d)) := ⟨_,rfl⟩
      rw [← hg1] at hh1
      have p1 : g1[0]? = some (.box (pbox (t2 :: r2) d)) := by rw [hg1,List.getElem?_set_self l0]
      have gg1 := hgr.set (y := pbox (t2 :: r2) d) q0
      rw [← hg1] at gg1
      obtain ⟨E2,hE2,hh2⟩ := qds qaj (b := 0) (H := g1) (rest := []) rfl p1 (qab _ _) (qab _ _) (hg t2 r2 hs2) rfl
      obtain ⟨g2,hg2⟩ : ∃ g2,g2 = g1.set 0 (.box (pbox r2 d)) := ⟨_,rfl⟩
      rw [← hg2] at hh2
      have p2 : g2[0]? = some (.box (pbox r2 d)) := by rw [hg2,List.getElem?_set_self (List.getElem?_eq_some_iff.1 p1).1]
      have gg2 := gg1.set (y := pbox r2 d) p1
      rw [← hg2] at gg2
      have hlen : acc.length + 1 ≤ qac := by
       simp only [List.length_cons] at hln
       unfold qac; omega
      obtain ⟨v3,E3,ha3,gg3,hB3⟩ := qsr qhf (fs := [[.str t2.text]]) gg2 (by simpa using hlen) (strs1 acc) (by intro c hc; simp only [List.mem_cons,List.not_mem_nil,or_false] at hc; subst hc; rfl) (by simp)
      have p3 := hB3 _ _ p2
      simp only [Z3,Nat.reduceAdd,Nat.reduceBEq,Int.reduceBEq,Int.reduceBNe,Int.reduceLT,Int.reduceLE,effs,qwz,hE1,hh1,hE2,hh2,ha3]
      refine .inl ⟨⟨n,acc ++ [t2.text],v3,r2⟩,_,rfl,⟨p3,by simpa using gg3,hTr.tail (by rw [hs2]; exact hk6),?_,?_⟩,by simp only [AtT,ats],by simp only []; omega,trivial⟩
      ·simp only [List.length_append,List.length_cons,List.length_nil] at hln ⊢; omega
      ·split at h2
       ·rename_i hh3
        rw [if_pos hh3]
        obtain ⟨l3,ts3,h3,h2⟩ := PR.bind_ok h2
        cases h2
        rw [h3]
        simp [PR.bind]
       ·rename_i hh3
        rw [if_neg hh3]
        cases h2
        rfl)
  obtain ⟨j,H,dd,q0,rfl⟩ := h2.elim
  clear hl
  simp only [Z3,Nat.reduceAdd,Nat.reduceBEq,Int.reduceBEq,Int.reduceBNe,Int.reduceLT,Int.reduceLE,effs,qwz]
  exact qcj (.inl rfl) rfl rfl rfl (fun b hb => by
   obtain rfl : b = 0 := Nat.lt_one_iff.1 hb
   exact qd9 _ _ ts' d _ q0) (qoe q0)
theorem met4 {f : FuncId} {rest : List AVal} {x y : List AVal} {v : AVal} (g : qbg C f (.ptr 0 0 :: rest) [.box x] v [.box y]) (hr : qad rest = [0]) (px : qad x = []) (py : qad y = []) (hv : refs v = []) :
 ∃ E : qaa → Eff,(∀ H,qak C (.box x :: H) f (.ptr 0 0 :: rest) = some (.ret v (E H))) ∧ (∀ H,(E H).of (.box x :: H) = .box y :: H) := by
 have h : ∀ H,qm5 C (.box x :: H) f (.ptr 0 0 :: rest) v (.box y :: H) := by
  intro H
  have ha : qad (.ptr 0 0 :: rest) = [0,0] := by simp [qad,refs,hr]
  refine qiz qaj [0] (by rw [ha]; simp [qc5,px]) (by simp) (by unfold qeh; simp [ha,qet,px]) (?_ : qbg C f _ (subH (.box x :: H) [0]) v [.box y]) hv ?_
  ·have e1 : subH (.box x :: H) [0] = [.box x] := by simp [subH,renB,qb6 px]
   have e2 : renL (fun x => [0].idxOf x) (.ptr 0 0 :: rest) = .ptr 0 0 :: rest := qcu _ (by rw [ha]; simp)
   rw [e1,e2]; exact g
  ·intro H' k
   apply List.ext_getElem?
   intro i
   cases i with
   | zero => rw [k.inn 0 0 rfl]; simp [renB,qb6 py]
   | succ i =>
    by_cases hi : i + 1 < (Blk.box x :: H).length
    ·rw [k.out (i + 1) hi (by simp)]; rfl
    ·have e3 : ([Blk.box y] : List Blk)[[0].length + (i + 1 - (Blk.box x :: H).length)]? = none := List.getElem?_eq_none (by simp)
     have e4 : (Blk.box y :: H)[i + 1]? = none := List.getElem?_eq_none (by simp only [List.length_cons] at hi ⊢; omega)
     rw [k.new (i + 1) (by omega),e3,e4]
     rfl
 exact ⟨fun H => (h H).choose,fun H => (h H).choose_spec.1,fun H => (h H).choose_spec.2⟩
theorem qhh {m : Nat} {opn cls : Str} {d : Nat} {ts ts' : List PTok} {l : List Str} (hT : TsOk ts) (h : qd7 m opn cls ts = .ok l ts') :
 TsOk ts' ∧ qbg C 135 [.ptr 0 0,.str opn,.str cls] [.box (pbox ts d)] (.slice (l.map fun s => [.str s]) .free) [.box (pbox ts' d)] := by
 unfold qd7 at h
 obtain ⟨w1,h⟩ := qa2 h
 obtain ⟨t,r,rfl,hTr,_,_⟩ := hT.hasS w1
 obtain ⟨l1,ts1,h1,h⟩ := PR.bind_ok h
 obtain ⟨hT1,g1⟩ := listS_c (by decide) d (fun t r hs => qht t r d hs) [44] (by decide) hTr h1
 obtain ⟨w2,h⟩ := qa2 h
 obtain ⟨t2,r2,rfl,hT2,_,_⟩ := hT1.hasS w2
 cases h
 refine ⟨hT2,?_⟩
 obtain ⟨E1,a1,a2⟩ := qdn _ t r d w1
 obtain ⟨E2,b1,b2⟩ := met4 g1 rfl (qab _ _) (qab _ _) rfl
 obtain ⟨E3,c1,c2⟩ := qdn _ t2 r2 d w2
 refine qa1 rfl Tryz.func135 rfl (by kernel_rfl) (m := 18) rfl ?_; simp only [Z3,Nat.reduceAdd,Nat.reduceBEq,Int.reduceBEq,Int.reduceBNe,Int.reduceLT,Int.reduceLE,Tryz.f135,fx_135,effs,a1,a2,b1,b2,c1,c2]
 exact qcj (.inl rfl) rfl rfl rfl (fun b hb => by
  obtain rfl : b = 0 := Nat.lt_one_iff.1 hb
  exact qd9 _ _ r2 d _ rfl) rfl
end Go.Ab
namespace Go.Ab
open Go Go.Ab.Tab
def LenR (R : Rd) : Prop := ∀ (o least : Nat) (ts : List PTok) (e : PExpr) (ts' : List PTok),R o least ts = .ok e ts' → ts'.length ≤ ts.length
theorem exprs5 (l : List PExpr) : ∀ c ∈ l.map PExpr.cells,c.length = 5 := by
 intro c hc; obtain ⟨s,_,rfl⟩ := List.mem_map.1 hc; exact s.len
theorem qzd {R : Rd} (hR : HypE R) {o : Nat} : ∀ (n : Nat) (ts ts' : List PTok) (l : List PExpr),TsOk ts → qd8 R o n ts = .ok l ts' → TsOk ts'
 | 0,_,_,_,_,h => by cases h
 | n + 1,ts,ts',l,hT,h => by
  simp only [qd8] at h
  obtain ⟨e,r,he,h⟩ := PR.bind_ok h
  have hTr := (hR _ _ _ _ _ hT he).1
  split at h
  ·rename_i hh
   obtain ⟨l1,ts1,h1,h⟩ := PR.bind_ok h
   cases h
   obtain ⟨t2,r2,rfl,hT2,_,_⟩ := hTr.hasS hh
   exact qzd hR n _ _ _ hT2 h1
  ·cases h; exact hTr
structure ListEt where
 n : Nat
 acc : List PExpr
 v : AVal
 ts : List PTok
theorem listE_c {R : Rd} (hR : HypE R) (hLen : LenR R) (d : Nat) {n : Nat} {ts ts' : List PTok} {l : List PExpr} (hT : TsOk ts) (h : qd8 R d n ts = .ok l ts') :
 TsOk ts' ∧ qbg C 297 [.ptr 0 0,.str [44],.func 50 [.ptr 0 0] []] [.box (pbox ts d)] (.slice (l.map PExpr.cells) .free) [.box (pbox ts' d)] := by
 refine ⟨qzd hR n ts ts' l hT h,?_⟩
 cases n with
 | zero => cases h
 | succ n =>
  simp only [qd8] at h
  obtain ⟨e0,rt,h0,h⟩ := PR.bind_ok h
  obtain ⟨hTr,x0⟩ := qfp hR hT h0
  obtain ⟨E,e1,e2⟩ := x0.m rfl
  have hle := hTr.le
  refine qa1 rfl Tryz.func297 rfl (by kernel_rfl) (m := 17) rfl ?_; simp only [Z3,Nat.reduceAdd,Nat.reduceBEq,Int.reduceBEq,Int.reduceBNe,Int.reduceLT,Int.reduceLE,Tryz.f297,qw6,effs,e1,e2]
  generalize hb : qan PP cmp0 C lpC _ = f; generalize hl : lpC f _ = r
  obtain ⟨ex,s',rfl,rfl,tk,h2⟩ := qcv (α := ListEt) hl [11,12,13,14,15,16,17,18] (fun a => [(7,a.v)]) (fun a h => h[0]? = some (.box (pbox a.ts d)) ∧ Grow2 h a.v (a.acc.map PExpr.cells) 37 ∧ TsOk a.ts ∧ a.acc.length + a.ts.length ≤ 65538 ∧ (if hasS [44] a.ts = true then (qd8 R d a.n a.ts.tail).bind fun l2 ts2 => .ok (a.acc ++ l2) ts2 else .ok a.acc a.ts) = .ok l ts') (fun a => a.n) (fun _ => ())
   (fun ts _ ex s => ex = .exit 0 ∧ ∃ tk,OutT [11,12,13,14,15,16,17,18] ts [(7,.slice (l.map PExpr.cells) tk)] (fun g => g[0]? = some (.box (pbox ts' d))) s) ⟨n,[e0],.slice [e0.cells] .full,rt⟩ ⟨rfl,.inl rfl,hTr,by simp only [List.length_cons,List.length_nil]; omega,h⟩ (by simp only [AtT,ats]) (by
    rintro ⟨n,acc,v,ts⟩ j G dd ⟨q0,hgr,hTs,hln,hp⟩
    clear hl; subst hb
    simp only at q0 hgr hTs hln hp ⊢
    obtain ⟨t,rt,rfl⟩ := hTs.ne
    cases hh : hasS [44] (t :: rt)
    ·rw [hh] at hp
     simp only [Bool.false_eq_true,if_false] at hp
     cases hp
     have c1 := qcx (c := C) (b := 0) (H := G) (rest := [.str [44]]) rfl q0 (qab _ _) (qjl [44] (by decide) t rt d hh) rfl
     simp only [Z3,Nat.reduceAdd,Nat.reduceBEq,Int.reduceBEq,Int.reduceBNe,Int.reduceLT,Int.reduceLE,effs,qw6,c1]
     obtain ⟨tk,hv⟩ : ∃ tk,v = .slice (l.map PExpr.cells) tk := by
      rcases hgr with h | ⟨_,h,_⟩ <;> exact ⟨_,h⟩
     subst hv
     exact .inr ⟨_,_,rfl,by simp,rfl,tk,by simp only [OutT,AtT,ats],q0⟩
    ·rw [hh] at hp
     simp only [if_true,List.tail_cons] at hp
     cases n with
     | zero => cases hp
     | succ n =>
      obtain ⟨l2,ts2,h2,hp⟩ := PR.bind_ok hp
      cases hp
      obtain ⟨_,_,hc,hTr,_,_⟩ := hTs.hasS hh
      cases hc
      simp only [qd8] at h2
      obtain ⟨x2,r2,h20,h2⟩ := PR.bind_ok h2
      have hlen2 := hLen _ _ _ _ _ h20
      obtain ⟨hT2,y2⟩ := qfp hR hTr h20
      obtain ⟨E1,hE1,hh1⟩ := qds qaj (b := 0) (H := G) (rest := [.str [44]]) rfl q0 (qab _ _) (qab _ _) (qjm [44] t rt d hh) rfl
      have l0 := (List.getElem?_eq_some_iff.1 q0).1
      obtain ⟨g1,hg1⟩ : ∃ g1,g1 = G.set 0 (.box (pbox rt d)) := ⟨_,rfl⟩
      rw [← hg1] at hh1
      have p1 : g1[0]? = some (.box (pbox rt d)) := by rw [hg1,List.getElem?_set_self l0]
      have gg1 := hgr.set (y := pbox rt d) q0
      rw [← hg1] at gg1
      obtain ⟨E2,hE2,hh2⟩ := qds qaj (b := 0) (H := g1) (rest := []) rfl p1 (qab _ _) (qab _ _) y2 (by simp only [refs]; exact x2.norefs)
      obtain ⟨g2,hg2⟩ : ∃ g2,g2 = g1.set 0 (.box (pbox r2 d)) := ⟨_,rfl⟩
      rw [← hg2] at hh2
      have p2 : g2[0]? = some (.box (pbox r2 d)) := by rw [hg2,List.getElem?_set_self (List.getElem?_eq_some_iff.1 p1).1]
      have gg2 := gg1.set (y := pbox r2 d) p1
      rw [← hg2] at gg2
      have hlen : acc.length + 1 ≤ qac := by
       simp only [List.length_cons] at hln
       unfold qac; omega
      obtain ⟨v3,E3,ha3,gg3,hB3⟩ := qsr qjb (fs := [x2.cells]) gg2 (by simpa using hlen) (exprs5 acc) (by intro c hc; simp only [List.mem_cons,List.not_mem_nil,or_false] at hc; subst hc; exact x2.len) (by simp)
      have p3 := hB3 _ _ p2
      simp only [Z3,Nat.reduceAdd,Nat.reduceBEq,Int.reduceBEq,Int.reduceBNe,Int.reduceLT,Int.reduceLE,effs,qw6,hE1,hh1,hE2,hh2,ha3]
      refine .inl ⟨⟨n,acc ++ [x2],v3,r2⟩,_,rfl,⟨p3,by simpa using gg3,hT2,?_,?_⟩,by simp only [AtT,ats],by simp only []; omega,trivial⟩
      ·simp only [List.length_append,List.length_cons,List.length_nil] at hln ⊢; omega
      ·split at h2
       ·rename_i hh3
        rw [if_pos hh3]
        obtain ⟨l3,ts3,h3,h2⟩ := PR.bind_ok h2
        cases h2
        rw [h3]
        simp [PR.bind]
       ·rename_i hh3
        rw [if_neg hh3]
        cases h2
        rfl)
  obtain ⟨j,H,dd,q0,rfl⟩ := h2.elim
  clear hl
  simp only [Z3,Nat.reduceAdd,Nat.reduceBEq,Int.reduceBEq,Int.reduceBNe,Int.reduceLT,Int.reduceLE,effs,qw6]
  exact qcj (.inl rfl) rfl rfl rfl (fun b hb => by
   obtain rfl : b = 0 := Nat.lt_one_iff.1 hb
   exact qd9 _ _ ts' d _ q0) (qoe q0)
theorem pcall_c {m : Nat} {R : Rd} (hR : HypE R) (hLen : LenR R) {d : Nat} {t : PTok} {r ts' : List PTok} {e : PExpr} (hT : TsOk r) (hs : t.sort = 1) (hc : (hasS [91] r || hasS [40] r) = true) (h : ql6 m R d t.text r = .ok e ts') :
 TsOk ts' ∧ RdE 286 [] (t :: r) d e ts' := by
 obtain ⟨N1,n1,n2⟩ := met (qht t r d hs) rfl (qab _ _) (qab _ _) rfl
 unfold ql6 at h
 obtain ⟨c,tsc,h1,h⟩ := PR.bind_ok h
 obtain ⟨w1,h⟩ := qa2 h
 obtain ⟨t1,r1,rfl⟩ := hT.ne
 cases hb : hasS [91] (t1 :: r1)
 ·rw [hb] at h1 hc
  simp only [Bool.false_eq_true,if_false] at h1
  cases h1
  obtain ⟨_,_,hcc,hTr,_,_⟩ := hT.hasS w1
  cases hcc
  obtain ⟨l,tsl,h2,h⟩ := PR.bind_ok h
  obtain ⟨hT2,g2⟩ := listE_c hR hLen d hTr h2
  obtain ⟨w2,h⟩ := qa2 h
  obtain ⟨t2,r2,rfl,hT3,_,_⟩ := hT2.hasS w2
  cases h
  refine ⟨hT3,?_⟩
  obtain ⟨E1,a1,a2⟩ := qdn _ t1 r1 d w1
  obtain ⟨E2,b1,b2⟩ := met4 g2 rfl (qab _ _) (qab _ _) rfl
  obtain ⟨E3,c1,c2⟩ := qdn _ t2 r2 d w2
  have q1 := qlf (s := [91]) (by decide) hb
  have q2 := qma w1
  unfold RdE
  refine qa1 rfl Tryz.func286 rfl (by kernel_rfl) (m := 35) rfl ?_; simp only [Z3,Nat.reduceAdd,Nat.reduceBEq,Int.reduceBEq,Int.reduceBNe,Int.reduceLT,Int.reduceLE,Tryz.f286,fx_286,effs,n1,n2,qep,bne,q1,q2,a1,a2,b1,b2,c1,c2]
  exact qed (ts := r2) (d := d) (.inl rfl) rfl rfl (mk_c 14 t.text 0 [] l .full .free) rfl rfl
 ·rw [hb] at h1
  simp only [if_true] at h1
  obtain ⟨hTc,gn⟩ := qhh (d := d) hT h1
  obtain ⟨t3,r3,rfl,hTr,_,_⟩ := hTc.hasS w1
  obtain ⟨l,tsl,h2,h⟩ := PR.bind_ok h
  obtain ⟨hT2,g2⟩ := listE_c hR hLen d hTr h2
  obtain ⟨w2,h⟩ := qa2 h
  obtain ⟨t2,r2,rfl,hT3,_,_⟩ := hT2.hasS w2
  cases h
  refine ⟨hT3,?_⟩
  obtain ⟨E0,m1,m2⟩ := met gn rfl (qab _ _) (qab _ _) rfl
  obtain ⟨E1,a1,a2⟩ := qdn _ t3 r3 d w1
  obtain ⟨E2,b1,b2⟩ := met4 g2 rfl (qab _ _) (qab _ _) rfl
  obtain ⟨E3,c1,c2⟩ := qdn _ t2 r2 d w2
  have q1 := qma hb
  unfold RdE
  refine qa1 rfl Tryz.func286 rfl (by kernel_rfl) (m := 35) rfl ?_; simp only [Z3,Nat.reduceAdd,Nat.reduceBEq,Int.reduceBEq,Int.reduceBNe,Int.reduceLT,Int.reduceLE,Tryz.f286,fx_286,effs,n1,n2,qep,bne,q1,m1,m2,a1,a2,b1,b2,c1,c2]
  exact qed (ts := r2) (d := d) (.inl rfl) rfl rfl (mk_c 14 t.text 0 c l .free .free) rfl rfl
theorem pvar_c {d : Nat} {t : PTok} {r : List PTok} (hT : TsOk r) (hs : t.sort = 1) (hc : (hasS [91] r || hasS [40] r) = false) :
 RdE 286 [] (t :: r) d (eVar t.text) r := by
 obtain ⟨N1,n1,n2⟩ := met (qht t r d hs) rfl (qab _ _) (qab _ _) rfl
 obtain ⟨t1,r1,rfl⟩ := hT.ne
 simp only [Bool.or_eq_false_iff] at hc
 have q1 := qlf (s := [91]) (by decide) hc.1
 have q2 := qlf (s := [40]) (by decide) hc.2
 unfold RdE
 refine qa1 rfl Tryz.func286 rfl (by kernel_rfl) (m := 35) rfl ?_; simp only [Z3,Nat.reduceAdd,Nat.reduceBEq,Int.reduceBEq,Int.reduceBNe,Int.reduceLT,Int.reduceLE,Tryz.f286,fx_286,effs,n1,n2,qep,bne,q1,q2]
 exact qed (ts := t1 :: r1) (d := d) (.inl rfl) rfl rfl (mk_c 4 t.text 0 [] [] .full .full) rfl rfl
end Go.Ab
namespace Go.Ab
open Go Go.Ab.Tab
def HypA (m : Nat) (R : Rd) (d : Nat) : Prop := ∀ (op : Int) (ts : List PTok) (e : PExpr) (ts' : List PTok),TsOk ts → qq3 m R d op ts = .ok e ts' → TsOk ts' ∧ RdE 287 [.int .i64 op] ts d e ts'
theorem atom_c {m : Nat} {R : Rd} (hR : HypE R) (hLen : LenR R) {d : Nat} (hA : HypA m R d) {ts ts' : List PTok} {e : PExpr} (hT : TsOk ts) (h : qjf m R d ts = .ok e ts') :
 TsOk ts' ∧ RdE 271 [] ts d e ts' := by
 obtain ⟨t,r,rfl⟩ := hT.ne
 unfold qjf at h
 unfold RdE
 by_cases s3 : qe5 (t :: r) = 3
 ·rw [if_pos s3] at h
  cases h
  refine ⟨hT.tail (by rw [show t.sort = 3 from s3]; decide),?_⟩
  obtain ⟨E,e1,e2⟩ := ql8 t ts' d
  have k3 : (t.sort == 3) = true := by have : t.sort = 3 := s3; simpa using this
  refine qa1 rfl Tryz.func271 rfl (by kernel_rfl) (m := 53) rfl ?_; simp only [Z3,Nat.reduceAdd,Nat.reduceBEq,Int.reduceBEq,Int.reduceBNe,Int.reduceLT,Int.reduceLE,Tryz.f271,qlo,effs,qgz,k3,e1,e2]
  exact qed (ts := ts') (d := d) (.inl rfl) rfl rfl (mk_c 1 [] t.n [] [] .full .full) rfl rfl
 rw [if_neg s3] at h
 have k3 : (t.sort == 3) = false := by have : ¬ t.sort = 3 := s3; simpa using this
 by_cases s2 : qe5 (t :: r) = 2
 ·rw [if_pos s2] at h
  cases h
  refine ⟨hT.tail (by rw [show t.sort = 2 from s2]; decide),?_⟩
  obtain ⟨E,e1,e2⟩ := ql8 t ts' d
  have k2 : (t.sort == 2) = true := by have : t.sort = 2 := s2; simpa using this
  refine qa1 rfl Tryz.func271 rfl (by kernel_rfl) (m := 53) rfl ?_; simp only [Z3,Nat.reduceAdd,Nat.reduceBEq,Int.reduceBEq,Int.reduceBNe,Int.reduceLT,Int.reduceLE,Tryz.f271,qlo,effs,qgz,k3,k2,e1,e2]
  exact qed (ts := ts') (d := d) (.inl rfl) rfl rfl (mk_c 3 t.text 0 [] [] .full .full) rfl rfl
 rw [if_neg s2] at h
 have k2 : (t.sort == 2) = false := by have : ¬ t.sort = 2 := s2; simpa using this
 by_cases s1 : qe5 (t :: r) = 1
 ·rw [if_pos s1] at h
  have hTr := hT.tail (by rw [show t.sort = 1 from s1]; decide)
  have k1 : (t.sort == 1) = true := by have : t.sort = 1 := s1; simpa using this
  simp only at h
  have key : TsOk ts' ∧ RdE 286 [] (t :: r) d e ts' := by
   cases hc : (hasS [91] r || hasS [40] r)
   ·rw [hc] at h
    cases h
    exact ⟨hTr,pvar_c hTr s1 hc⟩
   ·rw [hc] at h
    exact pcall_c hR hLen hTr s1 hc h
  refine ⟨key.1,?_⟩
  obtain ⟨E,e1,e2⟩ := key.2.m rfl
  refine qa1 rfl Tryz.func271 rfl (by kernel_rfl) (m := 53) rfl ?_; simp only [Z3,Nat.reduceAdd,Nat.reduceBEq,Int.reduceBEq,Int.reduceBNe,Int.reduceLT,Int.reduceLE,Tryz.f271,qlo,effs,qgz,k3,k2,k1,e1,e2]
  exact qed (ts := ts') (d := d) (.inl rfl) rfl rfl (qhu e) rfl rfl
 rw [if_neg s1] at h
 have k1 : (t.sort == 1) = false := by have : ¬ t.sort = 1 := s1; simpa using this
 by_cases h1 : hasS [116,114,117,101] (t :: r) = true
 ·rw [if_pos h1] at h
  cases h
  obtain ⟨_,_,hc,hTr,_,_⟩ := hT.hasS h1
  cases hc
  refine ⟨hTr,?_⟩
  obtain ⟨E,e1,e2⟩ := qf4 _ t r d h1
  refine qa1 rfl Tryz.func271 rfl (by kernel_rfl) (m := 53) rfl ?_; simp only [Z3,Nat.reduceAdd,Nat.reduceBEq,Int.reduceBEq,Int.reduceBNe,Int.reduceLT,Int.reduceLE,Tryz.f271,qlo,effs,qgz,k3,k2,k1,e1,e2]
  exact qed (ts := r) (d := d) (.inl rfl) rfl rfl (mk_c 2 [] 1 [] [] .full .full) rfl rfl
 rw [if_neg h1] at h
 have t1 := qio [116,114,117,101] (by decide) t r d (Bool.eq_false_iff.2 h1)
 by_cases h2 : hasS [102,97,108,115,101] (t :: r) = true
 ·rw [if_pos h2] at h
  cases h
  obtain ⟨_,_,hc,hTr,_,_⟩ := hT.hasS h2
  cases hc
  refine ⟨hTr,?_⟩
  obtain ⟨E,e1,e2⟩ := qf4 _ t r d h2
  refine qa1 rfl Tryz.func271 rfl (by kernel_rfl) (m := 53) rfl ?_; simp only [Z3,Nat.reduceAdd,Nat.reduceBEq,Int.reduceBEq,Int.reduceBNe,Int.reduceLT,Int.reduceLE,Tryz.f271,qlo,effs,qgz,k3,k2,k1,t1,e1,e2]
  exact qed (ts := r) (d := d) (.inl rfl) rfl rfl (mk_c 2 [] 0 [] [] .full .full) rfl rfl
 rw [if_neg h2] at h
 have t2 := qio [102,97,108,115,101] (by decide) t r d (Bool.eq_false_iff.2 h2)
 by_cases h3 : hasS [109,101,114,103,101] (t :: r) = true
 ·rw [if_pos h3] at h
  obtain ⟨_,_,hc,hTr,_,_⟩ := hT.hasS h3
  cases hc
  obtain ⟨hT',ga⟩ := hA _ _ _ _ hTr h
  refine ⟨hT',?_⟩
  obtain ⟨E,e1,e2⟩ := qf4 _ t r d h3
  obtain ⟨E',u1,u2⟩ := ga.m rfl
  refine qa1 rfl Tryz.func271 rfl (by kernel_rfl) (m := 53) rfl ?_; simp only [Z3,Nat.reduceAdd,Nat.reduceBEq,Int.reduceBEq,Int.reduceBNe,Int.reduceLT,Int.reduceLE,Tryz.f271,qlo,effs,qgz,k3,k2,k1,t1,t2,e1,e2,u1,u2]
  exact qed (ts := ts') (d := d) (.inl rfl) rfl rfl (qhu e) rfl rfl
 rw [if_neg h3] at h
 have t3 := qio [109,101,114,103,101] (by decide) t r d (Bool.eq_false_iff.2 h3)
 by_cases h4 : hasS [109,97,116,99,104] (t :: r) = true
 ·rw [if_pos h4] at h
  obtain ⟨_,_,hc,hTr,_,_⟩ := hT.hasS h4
  cases hc
  obtain ⟨hT',ga⟩ := hA _ _ _ _ hTr h
  refine ⟨hT',?_⟩
  obtain ⟨E,e1,e2⟩ := qf4 _ t r d h4
  obtain ⟨E',u1,u2⟩ := ga.m rfl
  refine qa1 rfl Tryz.func271 rfl (by kernel_rfl) (m := 53) rfl ?_; simp only [Z3,Nat.reduceAdd,Nat.reduceBEq,Int.reduceBEq,Int.reduceBNe,Int.reduceLT,Int.reduceLE,Tryz.f271,qlo,effs,qgz,k3,k2,k1,t1,t2,t3,e1,e2,u1,u2]
  exact qed (ts := ts') (d := d) (.inl rfl) rfl rfl (qhu e) rfl rfl
 rw [if_neg h4] at h
 have t4 := qio [109,97,116,99,104] (by decide) t r d (Bool.eq_false_iff.2 h4)
 obtain ⟨w1,h⟩ := qa2 h
 obtain ⟨_,_,hc,hTr,_,_⟩ := hT.hasS w1
 cases hc
 obtain ⟨x,ts1,hx,h⟩ := PR.bind_ok h
 obtain ⟨hT1,gx⟩ := qfp hR hTr hx
 obtain ⟨w2,h⟩ := qa2 h
 obtain ⟨t5,r5,rfl,hT5,_,_⟩ := hT1.hasS w2
 cases h
 refine ⟨hT5,?_⟩
 obtain ⟨E1,a1,a2⟩ := qdn _ t r d w1
 obtain ⟨E2,b1,b2⟩ := gx.m rfl
 obtain ⟨E3,c1,c2⟩ := qdn _ t5 r5 d w2
 refine qa1 rfl Tryz.func271 rfl (by kernel_rfl) (m := 53) rfl ?_; simp only [Z3,Nat.reduceAdd,Nat.reduceBEq,Int.reduceBEq,Int.reduceBNe,Int.reduceLT,Int.reduceLE,Tryz.f271,qlo,effs,qgz,k3,k2,k1,t1,t2,t3,t4,a1,a2,b1,b2,c1,c2]
 exact qed (ts := r5) (d := d) (.inl rfl) rfl rfl (qhu _) rfl rfl
end Go.Ab
namespace Go.Ab
open Go Go.Ab.Tab
theorem qvj : ∀ (n : Nat) (e0 e : PExpr) (ts ts' : List PTok),TsOk ts → qeo n e0 ts = .ok e ts' → TsOk ts'
 | 0,_,_,_,_,_,h => by cases h
 | n + 1,e0,e,ts,ts',hT,h => by
  simp only [qeo] at h
  split at h
  ·rename_i hh
   obtain ⟨t,r,rfl,hTr,_,_⟩ := hT.hasS hh
   obtain ⟨t1,r1,q1,s1,h1⟩ := qb0 h
   simp only [List.tail_cons] at q1
   subst q1
   have hT1 := hTr.tail (by rw [s1]; decide)
   obtain ⟨w1,h2⟩ := qa2 h1
   obtain ⟨t2,r2,rfl,hT2,_,_⟩ := hT1.hasS w1
   obtain ⟨t3,r3,q3,s3,h3⟩ := qb0 h2
   simp only [List.tail_cons] at q3
   subst q3
   have hT3 := hT2.tail (by rw [s3]; decide)
   obtain ⟨w2,h4⟩ := qa2 h3
   obtain ⟨t4,r4,rfl,hT4,_,_⟩ := hT3.hasS w2
   exact qvj n _ _ _ _ hT4 h4
  ·cases h; exact hT
structure WhSt where
 n : Nat
 left : PExpr
 tk : Tk
 ts : List PTok
theorem sampled_c {m : Nat} {R : Rd} (hR : HypE R) (hLen : LenR R) {d : Nat} (hA : HypA m R d) {ts ts' : List PTok} {e : PExpr} (hT : TsOk ts) (h : qex m R d ts = .ok e ts') :
 TsOk ts' ∧ RdE 247 [] ts d e ts' := by
 unfold qex at h
 obtain ⟨a,ts1,ha,h⟩ := PR.bind_ok h
 obtain ⟨hT1,ga⟩ := atom_c hR hLen hA hT ha
 obtain ⟨b,ts2,hbb,h⟩ := PR.bind_ok h
 obtain ⟨E,e1,e2⟩ := ga.m rfl
 rw [a.cells_eq,show qaf a.cons = .slice (a.cons.map fun s => [.str s]) .free from rfl] at e1
 obtain ⟨t1,r1,rfl⟩ := hT1.ne
 unfold RdE
 cases hev : (a.op == 14 && hasS [101,118,101,114,121] (t1 :: r1))
 ·rw [hev] at hbb
  simp only [Bool.false_eq_true,if_false] at hbb
  cases hbb
  refine ⟨qvj _ _ _ _ _ hT1 h,?_⟩
  cases k14 : (a.op == 14)
  ·refine qa1 rfl Tryz.func247 rfl (by kernel_rfl) (m := 38) rfl ?_; simp only [Z3,Nat.reduceAdd,Nat.reduceBEq,Int.reduceBEq,Int.reduceBNe,Int.reduceLT,Int.reduceLE,Tryz.f247,qg5,effs,e1,e2,k14]
   generalize hb : qan PP cmp0 C lpC _ = f; generalize hl : lpC f _ = r
   obtain ⟨ex,s',rfl,⟨rfl,tk',h2⟩⟩ := qfo (α := WhSt) hl [4,5,20,21,22,23,24,25,26,27,28,29,30,31,32,33,34,35,36,37] (fun _ => []) (fun a => [.box (pbox a.ts d),.box qb5,.box (a.left.cellsT a.tk)]) (fun a => TsOk a.ts ∧ qeo a.n a.left a.ts = .ok e ts') (fun a => a.n) (fun _ => ())
    (fun ts _ ex s => ex = .exit 0 ∧ ∃ tk,At [4,5,20,21,22,23,24,25,26,27,28,29,30,31,32,33,34,35,36,37] ts [.box (pbox ts' d),.box qb5,.box (e.cellsT tk)] [] s) ⟨m,a,.free,t1 :: r1⟩ ⟨hT1,h⟩ (At.of [] (by simp only [ats] <;> rfl) (by simp only [List.append_nil] <;> first | rfl | (rw [PExpr.cells_eq]; rfl))) (by
     rintro ⟨n,left,tk,ts⟩ j H dd ⟨hTs,hp⟩
     clear hl; subst hb
     simp only at hTs hp ⊢
     cases n with
     | zero => cases hp
     | succ n =>
      obtain ⟨t,r,rfl⟩ := hTs.ne
      simp only [qeo] at hp
      cases hh : hasS [119,104,101,110] (t :: r)
      ·rw [hh] at hp
       simp only [Bool.false_eq_true,if_false] at hp
       cases hp
       have c1 := qio [119,104,101,110] (by decide) t r d hh
       simp only [Z3,Nat.reduceAdd,Nat.reduceBEq,Int.reduceBEq,Int.reduceBNe,Int.reduceLT,Int.reduceLE,effs,qg5,PExpr.cellsT,qb5,c1]
       exact .inr ⟨_,_,rfl,by simp,rfl,tk,At.of _ (by simp only [ats] <;> rfl) (by simp only [List.cons_append,List.append_assoc,List.nil_append] <;> rfl)⟩
      ·rw [hh] at hp
       simp only [if_true] at hp
       obtain ⟨_,_,hc,hTr,_,_⟩ := hTs.hasS hh
       cases hc
       obtain ⟨t1,r1,q1,s1,g1⟩ := qb0 hp
       simp only [List.tail_cons] at q1
       subst q1
       have hT1 := hTr.tail (by rw [s1]; decide)
       obtain ⟨w1,g2⟩ := qa2 g1
       obtain ⟨t2,r2,rfl,hT2,_,_⟩ := hT1.hasS w1
       obtain ⟨t3,r3,q3,s3,g3⟩ := qb0 g2
       simp only [List.tail_cons] at q3
       subst q3
       have hT3 := hT2.tail (by rw [s3]; decide)
       obtain ⟨w2,g4⟩ := qa2 g3
       obtain ⟨t4,r4,rfl,hT4,_,_⟩ := hT3.hasS w2
       obtain ⟨V1,a1,a2⟩ := qf4 _ t (t1 :: t2 :: t3 :: t4 :: r4) d hh
       obtain ⟨V2,b1,b2⟩ := met (qm6 t1 (t2 :: t3 :: t4 :: r4) d s1) rfl (qab _ _) (qab _ _) rfl
       obtain ⟨V3,c1,c2⟩ := qdn _ t2 (t3 :: t4 :: r4) d w1
       obtain ⟨V4,d1,d2⟩ := met (qht t3 (t4 :: r4) d s3) rfl (qab _ _) (qab _ _) rfl
       obtain ⟨V5,f1,f2⟩ := qdn _ t4 r4 d w2
       simp only [Z3,Nat.reduceAdd,Nat.reduceBEq,Int.reduceBEq,Int.reduceBNe,Int.reduceLT,Int.reduceLE,effs,qg5,PExpr.cellsT,qb5,a1,a2,b1,b2,c1,c2,d1,d2,f1,f2]
       exact .inl ⟨⟨n,qje t3.text t1.text left,.full,r4⟩,_,rfl,⟨hT4,g4⟩,At.of _ (by simp only [ats] <;> rfl) (by simp only [List.cons_append,List.append_assoc,List.nil_append]; rw [show [AVal.int .i64 left.op,.str left.name,.int .i64 left.n,.slice (left.cons.map fun s => [.str s]) .free,.slice (left.kids.map PExpr.cells) .free] = left.cells from left.cells_eq.symm]; rfl),by simp only []; omega,trivial⟩)
   obtain ⟨j,H,dd,rfl⟩ := h2.elim
   clear hl
   simp only [Z3,Nat.reduceAdd,Nat.reduceBEq,Int.reduceBEq,Int.reduceBNe,Int.reduceLT,Int.reduceLE,effs,qg5]
   exact qed (ts := ts') (d := d) (.inl rfl) rfl rfl (qkn e tk') rfl rfl
  ·have k2 : hasS [101,118,101,114,121] (t1 :: r1) = false := by rw [k14] at hev; simpa using hev
   have c0 := qio [101,118,101,114,121] (by decide) t1 r1 d k2
   refine qa1 rfl Tryz.func247 rfl (by kernel_rfl) (m := 38) rfl ?_; simp only [Z3,Nat.reduceAdd,Nat.reduceBEq,Int.reduceBEq,Int.reduceBNe,Int.reduceLT,Int.reduceLE,Tryz.f247,qg5,effs,e1,e2,k14,c0]
   generalize hb : qan PP cmp0 C lpC _ = f; generalize hl : lpC f _ = r
   obtain ⟨ex,s',rfl,⟨rfl,tk',h2⟩⟩ := qfo (α := WhSt) hl [4,5,20,21,22,23,24,25,26,27,28,29,30,31,32,33,34,35,36,37] (fun _ => []) (fun a => [.box (pbox a.ts d),.box qb5,.box (a.left.cellsT a.tk)]) (fun a => TsOk a.ts ∧ qeo a.n a.left a.ts = .ok e ts') (fun a => a.n) (fun _ => ())
    (fun ts _ ex s => ex = .exit 0 ∧ ∃ tk,At [4,5,20,21,22,23,24,25,26,27,28,29,30,31,32,33,34,35,36,37] ts [.box (pbox ts' d),.box qb5,.box (e.cellsT tk)] [] s) ⟨m,a,.free,t1 :: r1⟩ ⟨hT1,h⟩ (At.of [] (by simp only [ats] <;> rfl) (by simp only [List.append_nil] <;> first | rfl | (rw [PExpr.cells_eq]; rfl))) (by
     rintro ⟨n,left,tk,ts⟩ j H dd ⟨hTs,hp⟩
     clear hl; subst hb
     simp only at hTs hp ⊢
     cases n with
     | zero => cases hp
     | succ n =>
      obtain ⟨t,r,rfl⟩ := hTs.ne
      simp only [qeo] at hp
      cases hh : hasS [119,104,101,110] (t :: r)
      ·rw [hh] at hp
       simp only [Bool.false_eq_true,if_false] at hp
       cases hp
       have c1 := qio [119,104,101,110] (by decide) t r d hh
       simp only [Z3,Nat.reduceAdd,Nat.reduceBEq,Int.reduceBEq,Int.reduceBNe,Int.reduceLT,Int.reduceLE,effs,qg5,PExpr.cellsT,qb5,c1]
       exact .inr ⟨_,_,rfl,by simp,rfl,tk,At.of _ (by simp only [ats] <;> rfl) (by simp only [List.cons_append,List.append_assoc,List.nil_append] <;> rfl)⟩
      ·rw [hh] at hp
       simp only [if_true] at hp
       obtain ⟨_,_,hc,hTr,_,_⟩ := hTs.hasS hh
       cases hc
       obtain ⟨t1,r1,q1,s1,g1⟩ := qb0 hp
       simp only [List.tail_cons] at q1
       subst q1
       have hT1 := hTr.tail (by rw [s1]; decide)
       obtain ⟨w1,g2⟩ := qa2 g1
       obtain ⟨t2,r2,rfl,hT2,_,_⟩ := hT1.hasS w1
       obtain ⟨t3,r3,q3,s3,g3⟩ := qb0 g2
       simp only [List.tail_cons] at q3
       subst q3
       have hT3 := hT2.tail (by rw [s3]; decide)
       obtain ⟨w2,g4⟩ := qa2 g3
       obtain ⟨t4,r4,rfl,hT4,_,_⟩ := hT3.hasS w2
       obtain ⟨V1,a1,a2⟩ := qf4 _ t (t1 :: t2 :: t3 :: t4 :: r4) d hh
       obtain ⟨V2,b1,b2⟩ := met (qm6 t1 (t2 :: t3 :: t4 :: r4) d s1) rfl (qab _ _) (qab _ _) rfl
       obtain ⟨V3,c1,c2⟩ := qdn _ t2 (t3 :: t4 :: r4) d w1
       obtain ⟨V4,d1,d2⟩ := met (qht t3 (t4 :: r4) d s3) rfl (qab _ _) (qab _ _) rfl
       obtain ⟨V5,f1,f2⟩ := qdn _ t4 r4 d w2
       simp only [Z3,Nat.reduceAdd,Nat.reduceBEq,Int.reduceBEq,Int.reduceBNe,Int.reduceLT,Int.reduceLE,effs,qg5,PExpr.cellsT,qb5,a1,a2,b1,b2,c1,c2,d1,d2,f1,f2]
       exact .inl ⟨⟨n,qje t3.text t1.text left,.full,r4⟩,_,rfl,⟨hT4,g4⟩,At.of _ (by simp only [ats] <;> rfl) (by simp only [List.cons_append,List.append_assoc,List.nil_append]; rw [show [AVal.int .i64 left.op,.str left.name,.int .i64 left.n,.slice (left.cons.map fun s => [.str s]) .free,.slice (left.kids.map PExpr.cells) .free] = left.cells from left.cells_eq.symm]; rfl),by simp only []; omega,trivial⟩)
   obtain ⟨j,H,dd,rfl⟩ := h2.elim
   clear hl
   simp only [Z3,Nat.reduceAdd,Nat.reduceBEq,Int.reduceBEq,Int.reduceBNe,Int.reduceLT,Int.reduceLE,effs,qg5]
   exact qed (ts := ts') (d := d) (.inl rfl) rfl rfl (qkn e tk') rfl rfl
 ·rw [hev] at hbb
  simp only [if_true,List.tail_cons] at hbb
  simp only [Bool.and_eq_true] at hev
  obtain ⟨_,_,hc,hTr,_,_⟩ := hT1.hasS hev.2
  cases hc
  obtain ⟨k,ts3,hk,hbb⟩ := PR.bind_ok hbb
  cases hbb
  obtain ⟨hT3,gk,_⟩ := hR _ _ _ _ _ hTr hk
  refine ⟨qvj _ _ _ _ _ hT3 h,?_⟩
  obtain ⟨V,v1,v2⟩ := qf4 _ t1 r1 d hev.2
  obtain ⟨K,y1,y2,y3⟩ := (gk rfl).m3 rfl
  have k14 := hev.1
  refine qa1 rfl Tryz.func247 rfl (by kernel_rfl) (m := 38) rfl ?_; simp only [Z3,Nat.reduceAdd,Nat.reduceBEq,Int.reduceBEq,Int.reduceBNe,Int.reduceLT,Int.reduceLE,Tryz.f247,qg5,effs,e1,e2,k14,v1,v2,y1,y2,qlr,qib,qt6 _ _ _ _]
  rw [qfv]
  ·simp only [Z3,Nat.reduceAdd,Nat.reduceBEq,Int.reduceBEq,Int.reduceBNe,Int.reduceLT,Int.reduceLE,effs,qg5,y2,qlr,qib,qt6 _ _ _ _]
   generalize hb : qan PP cmp0 C lpC _ = f; generalize hl : lpC f _ = r
   obtain ⟨ex,s',rfl,⟨rfl,tk',h2⟩⟩ := qfo (α := WhSt) hl [4,5,20,21,22,23,24,25,26,27,28,29,30,31,32,33,34,35,36,37] (fun _ => []) (fun a => [.box (pbox a.ts d),.box qb5,.box (a.left.cellsT a.tk)]) (fun a => TsOk a.ts ∧ qeo a.n a.left a.ts = .ok e ts') (fun a => a.n) (fun _ => ())
    (fun ts _ ex s => ex = .exit 0 ∧ ∃ tk,At [4,5,20,21,22,23,24,25,26,27,28,29,30,31,32,33,34,35,36,37] ts [.box (pbox ts' d),.box qb5,.box (e.cellsT tk)] [] s) ⟨m,qe3 a k,.free,ts2⟩ ⟨hT3,h⟩ (At.of [] (by simp only [ats] <;> rfl) (by simp only [List.append_nil] <;> first | rfl | (rw [PExpr.cells_eq]; rfl))) (by
     rintro ⟨n,left,tk,ts⟩ j H dd ⟨hTs,hp⟩
     clear hl; subst hb
     simp only at hTs hp ⊢
     cases n with
     | zero => cases hp
     | succ n =>
      obtain ⟨t,r,rfl⟩ := hTs.ne
      simp only [qeo] at hp
      cases hh : hasS [119,104,101,110] (t :: r)
      ·rw [hh] at hp
       simp only [Bool.false_eq_true,if_false] at hp
       cases hp
       have c1 := qio [119,104,101,110] (by decide) t r d hh
       simp only [Z3,Nat.reduceAdd,Nat.reduceBEq,Int.reduceBEq,Int.reduceBNe,Int.reduceLT,Int.reduceLE,effs,qg5,PExpr.cellsT,qb5,c1]
       exact .inr ⟨_,_,rfl,by simp,rfl,tk,At.of _ (by simp only [ats] <;> rfl) (by simp only [List.cons_append,List.append_assoc,List.nil_append] <;> rfl)⟩
      ·rw [hh] at hp
       simp only [if_true] at hp
       obtain ⟨_,_,hc,hTr,_,_⟩ := hTs.hasS hh
       cases hc
       obtain ⟨t1,r1,q1,s1,g1⟩ := qb0 hp
       simp only [List.tail_cons] at q1
       subst q1
       have hT1 := hTr.tail (by rw [s1]; decide)
       obtain ⟨w1,g2⟩ := qa2 g1
       obtain ⟨t2,r2,rfl,hT2,_,_⟩ := hT1.hasS w1
       obtain ⟨t3,r3,q3,s3,g3⟩ := qb0 g2
       simp only [List.tail_cons] at q3
       subst q3
       have hT3 := hT2.tail (by rw [s3]; decide)
       obtain ⟨w2,g4⟩ := qa2 g3
       obtain ⟨t4,r4,rfl,hT4,_,_⟩ := hT3.hasS w2
       obtain ⟨V1,a1,a2⟩ := qf4 _ t (t1 :: t2 :: t3 :: t4 :: r4) d hh
       obtain ⟨V2,b1,b2⟩ := met (qm6 t1 (t2 :: t3 :: t4 :: r4) d s1) rfl (qab _ _) (qab _ _) rfl
       obtain ⟨V3,c1,c2⟩ := qdn _ t2 (t3 :: t4 :: r4) d w1
       obtain ⟨V4,d1,d2⟩ := met (qht t3 (t4 :: r4) d s3) rfl (qab _ _) (qab _ _) rfl
       obtain ⟨V5,f1,f2⟩ := qdn _ t4 r4 d w2
       simp only [Z3,Nat.reduceAdd,Nat.reduceBEq,Int.reduceBEq,Int.reduceBNe,Int.reduceLT,Int.reduceLE,effs,qg5,PExpr.cellsT,qb5,a1,a2,b1,b2,c1,c2,d1,d2,f1,f2]
       exact .inl ⟨⟨n,qje t3.text t1.text left,.full,r4⟩,_,rfl,⟨hT4,g4⟩,At.of _ (by simp only [ats] <;> rfl) (by simp only [List.cons_append,List.append_assoc,List.nil_append]; rw [show [AVal.int .i64 left.op,.str left.name,.int .i64 left.n,.slice (left.cons.map fun s => [.str s]) .free,.slice (left.kids.map PExpr.cells) .free] = left.cells from left.cells_eq.symm]; rfl),by simp only []; omega,trivial⟩)
   obtain ⟨j,H,dd,rfl⟩ := h2.elim
   clear hl
   simp only [Z3,Nat.reduceAdd,Nat.reduceBEq,Int.reduceBEq,Int.reduceBNe,Int.reduceLT,Int.reduceLE,effs,qg5]
   exact qed (ts := ts') (d := d) (.inl rfl) rfl rfl (qkn e tk') rfl rfl
  ·kernel_rfl
  ·have z2 := y3 [Blk.box qb5,Blk.box (a.cellsT .free)] 2 (by omega) (by simp)
   unfold qb5 PExpr.cellsT at z2
   simp only [qal,qcf,qae,qei,z2,Bool.not_false,Bool.or_true,Bool.and_true,List.getElem?_cons_succ,List.getElem?_cons_zero]
end Go.Ab
