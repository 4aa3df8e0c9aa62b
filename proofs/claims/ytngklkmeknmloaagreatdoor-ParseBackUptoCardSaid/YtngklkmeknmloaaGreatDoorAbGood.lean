/- What is told of an expression that may be is read as that expression. -/
import Derived.Test.YtngklkmeknmloaaGreatDoorAbBox2
import Derived.Test.YtngklkmeknmloaaGreatDoorAbTypes
import Derived.Test.YtngklkmeknmloaaGreatDoorAbTok
import Derived.Test.YtngklkmeknmloaaGreatDoorAbInv
set_option linter.unusedSimpArgs false
set_option linter.unusedVariables false
set_option maxRecDepth 100000
set_option maxHeartbeats 4000000
namespace Go.Ab
open Go Go.Ab.Tab
inductive Good : PExpr → Prop where
 | int (n : Int) : 0 ≤ n → Good (eInt n)
 | bool (n : Int) : n = 0 ∨ n = 1 → Good (eBool n)
 | con (s : Str) : qfe s = true → Good (eCon s)
 | var (s : Str) : qch s = true → Good (eVar s)
 | un (s : Str) (k : PExpr) : s ∈ unL → Good k → Good (eUn s k)
 | bin (s : Str) (a b : PExpr) : s ∈ binL → Good a → Good b → Good (eBin s a b)
 | cond (a b c : PExpr) : Good a → Good b → Good c → Good (eIf a b c)
 | fby (a b : PExpr) : Good a → Good b → Good (eFby a b)
 | pre (k : PExpr) : Good k → Good (ePre k)
 | arrow (a b : PExpr) : Good a → Good b → Good (qgk a b)
 | when (x c : Str) (k : PExpr) : qch x = true → qfe c = true → Good k → Good (qje x c k)
 | arms (op : Int) (x : Str) (cons : List Str) (kids : List PExpr) : op = 12 ∨ op = 13 → qch x = true → cons.length = kids.length → 1 ≤ cons.length → cons.length ≤ 8 → (∀ c ∈ cons,qfe c = true) → (∀ k ∈ kids,Good k) → Good (.mk op x 0 cons kids)
 | call (x : Str) (cons : List Str) (kids : List PExpr) : qch x = true → cons.length ≤ 6 → (∀ c ∈ cons,qch c = true) → 1 ≤ kids.length → kids.length ≤ 6 → (∀ k ∈ kids,Good k) → Good (.mk 14 x 0 cons kids)
 | every (k x : PExpr) : k.op = 14 → Good k → Good x → Good (qe3 k x)
theorem qfm (s : Str) : qco false s = qch s := by
 unfold qco; cases s <;> rfl
theorem qiq (s : Str) : conB false s = qfe s := by
 unfold conB; cases s <;> rfl
theorem qhj {α : Type} {l : List α} (h : (l.length : Int) ≤ 0) : l = [] := List.eq_nil_of_length_eq_zero (by omega)
theorem len1 {α : Type} {l : List α} (h1 : 1 ≤ (l.length : Int)) (h : (l.length : Int) ≤ 1) : ∃ a,l = [a] := List.length_eq_one_iff.1 (by omega)
theorem len2 {α : Type} {l : List α} (h1 : 2 ≤ (l.length : Int)) (h : (l.length : Int) ≤ 2) : ∃ a b,l = [a,b] := by
 match l,h1,h with
 | [a,b],_,_ => exact ⟨a,b,rfl⟩
 | [],h,_ => simp at h
 | [_],h,_ => simp at h
 | _ :: _ :: _ :: _,_,h => simp at h; omega
theorem len3 {α : Type} {l : List α} (h1 : 3 ≤ (l.length : Int)) (h : (l.length : Int) ≤ 3) : ∃ a b c,l = [a,b,c] := by
 match l,h1,h with
 | [a,b,c],_,_ => exact ⟨a,b,c,rfl⟩
 | [],h,_ => simp at h
 | [_],h,_ => simp at h
 | [_,_],h,_ => simp at h
 | _ :: _ :: _ :: _ :: _,_,h => simp at h; omega
structure Facts (w : Wnt) (op : Int) (name : Str) (n : Int) (cons : List Str) (kids : List PExpr) : Prop where
 nm : w.b1 name = true
 nn : w.b2 n = true
 c1 : w.least ≤ (cons.length : Int)
 c2 : (cons.length : Int) ≤ w.most
 c3 : ∀ c ∈ cons,w.cn c = true
 k1 : w.kl ≤ (kids.length : Int)
 k2 : (kids.length : Int) ≤ w.km
 am : w.am = true → cons.length = kids.length
 ev : op = 15 → qdf kids = true
theorem q48 {w : Wnt} {op : Int} {name : Str} {n : Int} {cons : List Str} {kids : List PExpr} : w.head op name n cons kids = true ↔ Facts w op name n cons kids := by
 unfold Wnt.head Wnt.b3
 simp only [Bool.and_eq_true,decide_eq_true_eq,Bool.not_eq_true',decide_eq_false_iff_not,List.any_eq_false,Bool.not_eq_true,Bool.and_eq_false_iff,bne_eq_false_iff_eq,beq_eq_false_iff_ne,ne_eq,Int.not_lt]
 constructor
 ·rintro ⟨⟨⟨⟨⟨⟨a,b⟩,⟨c,d⟩,e⟩,f⟩,g⟩,h⟩,i⟩
  refine ⟨a,b,c,d,fun x hx => by simpa using e x hx,f,g,fun hm => ?_,fun ho => ?_⟩
  ·rcases h with h | h
   ·rw [hm] at h; cases h
   ·omega
  ·rcases i with i | i
   ·exact absurd ho i
   ·simpa using i
 ·rintro ⟨a,b,c,d,e,f,g,h,i⟩
  refine ⟨⟨⟨⟨⟨⟨a,b⟩,⟨c,d⟩,fun x hx => by simpa using e x hx⟩,f⟩,g⟩,?_⟩,?_⟩
  ·cases hm : w.am
   ·exact .inl rfl
   ·exact .inr (by have := h hm; omega)
  ·by_cases ho : op = 15
   ·exact .inr (by simpa using i ho)
   ·exact .inl ho
theorem any_mem {l : List Str} {s : Str} (h : (l.any (s == ·)) = true) : s ∈ l := by
 rw [List.any_eq_true] at h
 obtain ⟨x,hx,he⟩ := h
 rw [eq_of_beq he]; exact hx
theorem mem_any {l : List Str} {s : Str} (h : s ∈ l) : (l.any (s == ·)) = true := List.any_eq_true.2 ⟨s,h,by simp⟩
theorem q3m {made : Bool} {op : Int} {name : Str} {n : Int} {cons : List Str} {kids : List PExpr} (h : qax made (.mk op name n cons kids) = true) :
 (∃ w,wnt made op = some w ∧ Facts w op name n cons kids) ∧ ∀ k ∈ kids,qax made k = true := by
 rw [qdj] at h
 simp only [PExpr.op,PExpr.name,PExpr.n,PExpr.cons,PExpr.kids,Bool.and_eq_true,Bool.not_eq_true',List.any_eq_false,Bool.not_eq_true] at h
 obtain ⟨h1,h2⟩ := h
 refine ⟨?_,fun k hk => by simpa using h2 k hk⟩
 cases hw : wnt made op with
 | none => rw [hw] at h1; cases h1
 | some w => rw [hw] at h1; exact ⟨w,rfl,q48.1 h1⟩
theorem good_of (e : PExpr) : qax false e = true → Good e := by
 induction e using PExpr.induct with
 | h op name n cons kids ih =>
  intro h
  obtain ⟨⟨w,hw,F⟩,h2⟩ := q3m h
  have hk : ∀ k ∈ kids,Good k := fun k hk => ih k hk (h2 k hk)
  by_cases o1 : op = 1
  ·subst o1
   obtain rfl := Option.some.inj hw.symm
   have hc := qhj F.c2; have hks := qhj F.k2
   have hn := F.nm; have hnn := F.nn
   simp only [Wnt.b1,Wnt.b2,beq_iff_eq,decide_eq_true_eq] at hn hnn
   subst hn hc hks; exact .int n hnn
  by_cases o2 : op = 2
  ·subst o2
   obtain rfl := Option.some.inj hw.symm
   have hc := qhj F.c2; have hks := qhj F.k2
   have hn := F.nm; have hnn := F.nn
   simp only [Wnt.b1,Wnt.b2,beq_iff_eq,Bool.or_eq_true] at hn hnn
   subst hn hc hks; exact .bool n hnn
  by_cases o3 : op = 3
  ·subst o3
   obtain rfl := Option.some.inj hw.symm
   have hc := qhj F.c2; have hks := qhj F.k2
   have hn := F.nm; have hnn := F.nn
   simp only [Wnt.b1,Wnt.b2,beq_iff_eq,qiq] at hn hnn
   subst hnn hc hks; exact .con name hn
  by_cases o4 : op = 4
  ·subst o4
   obtain rfl := Option.some.inj hw.symm
   have hc := qhj F.c2; have hks := qhj F.k2
   have hn := F.nm; have hnn := F.nn
   simp only [Wnt.b1,Wnt.b2,beq_iff_eq,qfm] at hn hnn
   subst hnn hc hks; exact .var name hn
  by_cases o5 : op = 5
  ·subst o5
   obtain rfl := Option.some.inj hw.symm
   have hc := qhj F.c2; obtain ⟨a,hks⟩ := len1 F.k1 F.k2
   have hn := F.nm; have hnn := F.nn
   simp only [Wnt.b1,Wnt.b2,beq_iff_eq] at hn hnn
   subst hnn hc hks; exact .un name a (any_mem hn) (hk a (by simp))
  by_cases o6 : op = 6
  ·subst o6
   obtain rfl := Option.some.inj hw.symm
   have hc := qhj F.c2; obtain ⟨a,b,hks⟩ := len2 F.k1 F.k2
   have hn := F.nm; have hnn := F.nn
   simp only [Wnt.b1,Wnt.b2,beq_iff_eq] at hn hnn
   subst hnn hc hks; exact .bin name a b (any_mem hn) (hk a (by simp)) (hk b (by simp))
  by_cases o7 : op = 7
  ·subst o7
   obtain rfl := Option.some.inj hw.symm
   have hc := qhj F.c2; obtain ⟨a,b,c,hks⟩ := len3 F.k1 F.k2
   have hn := F.nm; have hnn := F.nn
   simp only [Wnt.b1,Wnt.b2,beq_iff_eq] at hn hnn
   subst hn hnn hc hks; exact .cond a b c (hk a (by simp)) (hk b (by simp)) (hk c (by simp))
  by_cases o8 : op = 8
  ·subst o8
   obtain rfl := Option.some.inj hw.symm
   have hc := qhj F.c2; obtain ⟨a,b,hks⟩ := len2 F.k1 F.k2
   have hn := F.nm; have hnn := F.nn
   simp only [Wnt.b1,Wnt.b2,beq_iff_eq] at hn hnn
   subst hn hnn hc hks; exact .fby a b (hk a (by simp)) (hk b (by simp))
  by_cases o9 : op = 9
  ·subst o9
   obtain rfl := Option.some.inj hw.symm
   have hc := qhj F.c2; obtain ⟨a,hks⟩ := len1 F.k1 F.k2
   have hn := F.nm; have hnn := F.nn
   simp only [Wnt.b1,Wnt.b2,beq_iff_eq] at hn hnn
   subst hn hnn hc hks; exact .pre a (hk a (by simp))
  by_cases o10 : op = 10
  ·subst o10
   obtain rfl := Option.some.inj hw.symm
   have hc := qhj F.c2; obtain ⟨a,b,hks⟩ := len2 F.k1 F.k2
   have hn := F.nm; have hnn := F.nn
   simp only [Wnt.b1,Wnt.b2,beq_iff_eq] at hn hnn
   subst hn hnn hc hks; exact .arrow a b (hk a (by simp)) (hk b (by simp))
  by_cases o11 : op = 11
  ·subst o11
   obtain rfl := Option.some.inj hw.symm
   obtain ⟨c,hc⟩ := len1 F.c1 F.c2; obtain ⟨a,hks⟩ := len1 F.k1 F.k2
   have hn := F.nm; have hnn := F.nn; have h3 := F.c3
   simp only [Wnt.b1,Wnt.b2,beq_iff_eq,qfm,qiq] at hn hnn h3
   subst hnn hc hks; exact .when name c a hn (h3 c (by simp)) (hk a (by simp))
  by_cases o12 : op = 12
  ·subst o12
   obtain rfl := Option.some.inj hw.symm
   have hn := F.nm; have hnn := F.nn; have h3 := F.c3
   have c1 := F.c1; have c2 := F.c2
   simp only [Wnt.b1,Wnt.b2,beq_iff_eq,qfm,qiq] at hn hnn h3 c1 c2
   subst hnn; exact .arms 12 name cons kids (.inl rfl) hn (F.am rfl) (by omega) (by omega) h3 hk
  by_cases o13 : op = 13
  ·subst o13
   obtain rfl := Option.some.inj hw.symm
   have hn := F.nm; have hnn := F.nn; have h3 := F.c3
   have c1 := F.c1; have c2 := F.c2
   simp only [Wnt.b1,Wnt.b2,beq_iff_eq,qfm,qiq] at hn hnn h3 c1 c2
   subst hnn; exact .arms 13 name cons kids (.inr rfl) hn (F.am rfl) (by omega) (by omega) h3 hk
  by_cases o14 : op = 14
  ·subst o14
   obtain rfl := Option.some.inj hw.symm
   have hn := F.nm; have hnn := F.nn; have h3 := F.c3
   have c2 := F.c2; have k1 := F.k1; have k2 := F.k2
   simp only [Wnt.b1,Wnt.b2,beq_iff_eq,qfm] at hn hnn h3 c2 k1 k2
   subst hnn; exact .call name cons kids hn (by omega) h3 (by omega) (by omega) hk
  by_cases o15 : op = 15
  ·subst o15
   obtain rfl := Option.some.inj hw.symm
   have hc := qhj F.c2; obtain ⟨a,b,hks⟩ := len2 F.k1 F.k2
   have hn := F.nm; have hnn := F.nn; have hev := F.ev rfl
   simp only [Wnt.b1,Wnt.b2,beq_iff_eq] at hn hnn
   subst hn hnn hc hks
   exact .every a b (by simpa [qdf] using hev) (hk a (by simp)) (hk b (by simp))
  ·unfold wnt at hw
   rw [if_neg o1,if_neg o2,if_neg o3,if_neg o4,if_neg o5,if_neg o6,if_neg o7,if_neg o8,if_neg o9,if_neg o10,if_neg o11,if_neg o12,if_neg o13,if_neg o14,if_neg o15] at hw
   cases hw
end Go.Ab
namespace Go.Ab
open Go Go.Ab.Tab
mutual
def nd : PExpr → Nat
 | .mk _ _ _ _ ks => ndL ks + 1
def ndL : List PExpr → Nat
 | [] => 0
 | k :: r => max (nd k) (ndL r)
end
theorem nd_le {k : PExpr} : ∀ {l : List PExpr},k ∈ l → nd k ≤ ndL l
 | x :: r,h => by
  simp only [ndL]
  rcases List.mem_cons.1 h with rfl | h
  ·omega
  ·have := nd_le h; omega
theorem qgl (k : PExpr) : 1 ≤ nd k := by cases k; simp only [nd]; omega
def stopA (r : List PTok) : Prop := hasS [91] r = false ∧ hasS [40] r = false
def stopU (r : List PTok) : Prop := stopA r ∧ hasS [119,104,101,110] r = false ∧ hasS [101,118,101,114,121] r = false
def qoh (r : List PTok) : Prop := stopU r ∧ qbo (qa4 r) = 0
def noPre (ts : List PTok) : Prop := ∀ m R o,qjw m R o ts = qex m R o ts
def Back (e : PExpr) : Prop := ∀ o r,o + 2 * nd e ≤ 102 → stopA r → Ev (fun m n => qjf m (pE n) o (toks e.words ++ r)) (.ok e r)
def Fst (e : PExpr) : Prop := ∀ r,noPre (toks e.words ++ r)
theorem Ev.paren {o : Nat} {ts r : List PTok} {e : PExpr} (h : Ev (fun _ n => pE n o 1 ts) (.ok e (tokW [41] :: r))) : Ev (fun m n => qjf m (pE n) o (tokW [40] :: ts)) (.ok e r) :=
 Ev.congr (g := fun _ n => (pE n o 1 ts).bind fun e ts => qau [41] ts fun ts => .ok e ts) (fun _ _ => rfl) (Ev.bind (k := fun _ _ e ts => qau [41] ts fun ts => .ok e ts) h (Ev.pure fun _ _ => rfl))
theorem Ev.when0 {e : PExpr} {r : List PTok} (hw : hasS [119,104,101,110] r = false) : Ev (fun m _ => qeo m e r) (.ok e r) :=
 Ev.succ (g := fun _ _ => .ok e r) (fun m n => by simp only [qeo,hw]; rfl) (Ev.pure fun _ _ => rfl)
theorem Ev.sampled {o : Nat} {ts r : List PTok} {e : PExpr} (h : Ev (fun m n => qjf m (pE n) o ts) (.ok e r)) (hw : hasS [119,104,101,110] r = false) (he : hasS [101,118,101,114,121] r = false) : Ev (fun m n => qex m (pE n) o ts) (.ok e r) := by
 unfold qex
 refine Ev.bind (f := fun m n => qjf m (pE n) o ts) (k := fun m n e ts => (if e.op == 14 && hasS [101,118,101,114,121] ts then (pE n o 0 ts.tail).bind fun k ts => .ok (qe3 e k) ts else .ok e ts).bind fun e ts => qeo m e ts) h ?_
 refine Ev.congr (g := fun m _ => qeo m e r) (fun m n => ?_) (Ev.when0 hw)
 simp only [he,Bool.and_false]; rfl
theorem Ev.unary {o : Nat} {ts : List PTok} {x : PR PExpr} (h : Ev (fun m n => qex m (pE n) (o + 1) ts) x) (hf : noPre ts) (ho : o < 100) : Ev (fun _ n => pE n o 0 ts) x :=
 Ev.un ho (Ev.congr (fun m n => hf m (pE n) (o + 1)) h)
theorem Ev.loop0 {o least most : Nat} {e : PExpr} {r : List PTok} (hl : least ≠ 0) (hs : qbo (qa4 r) = 0) : Ev (fun m n => qe8 (pE n) o least m most e r) (.ok e r) :=
 Ev.succ (g := fun _ _ => .ok e r) (fun m n => by
  simp only [qe8,hs]
  rw [if_pos (by omega)]) (Ev.pure fun _ _ => rfl)
theorem Ev.infStop {o least : Nat} {ts r : List PTok} {e : PExpr} (hl : least ≠ 0) (h : Ev (fun _ n => pE n o 0 ts) (.ok e r)) (hs : qbo (qa4 r) = 0) : Ev (fun _ n => pE n o least ts) (.ok e r) :=
 Ev.inf hl h (Ev.loop0 hl hs)
theorem Back.unary {k : PExpr} (hb : Back k) (hf : Fst k) {o : Nat} {r : List PTok} (h : o + 1 + 2 * nd k ≤ 102) (ho : o < 100) (hs : stopU r) : Ev (fun _ n => pE n o 0 (toks k.words ++ r)) (.ok k r) :=
 Ev.unary (Ev.sampled (hb (o + 1) r h hs.1) hs.2.1 hs.2.2) (hf r) ho
theorem Back.inf {k : PExpr} (hb : Back k) (hf : Fst k) {o least : Nat} {r : List PTok} (hl : least ≠ 0) (h : o + 1 + 2 * nd k ≤ 102) (ho : o < 100) (hs : qoh r) : Ev (fun _ n => pE n o least (toks k.words ++ r)) (.ok k r) :=
 Ev.infStop hl (hb.unary hf h ho hs.1) hs.2
theorem qir (r : List PTok) : qoh (tokW [41] :: r) := ⟨⟨⟨rfl,rfl⟩,rfl,rfl⟩,rfl⟩
theorem q49 (r : List PTok) : qoh (tokW [44] :: r) := ⟨⟨⟨rfl,rfl⟩,rfl,rfl⟩,rfl⟩
theorem stop_bar (r : List PTok) : qoh (tokW [124] :: r) := ⟨⟨⟨rfl,rfl⟩,rfl,rfl⟩,rfl⟩
theorem stop_semi (r : List PTok) : qoh (tokW [59] :: r) := ⟨⟨⟨rfl,rfl⟩,rfl,rfl⟩,rfl⟩
theorem qzm (r : List PTok) : qoh (tokW [116,104,101,110] :: r) := ⟨⟨⟨rfl,rfl⟩,rfl,rfl⟩,rfl⟩
theorem stop_else (r : List PTok) : qoh (tokW [101,108,115,101] :: r) := ⟨⟨⟨rfl,rfl⟩,rfl,rfl⟩,rfl⟩
theorem stop_bin {s : Str} (h : s ∈ binL) (r : List PTok) : stopU (tokW s :: r) := by
 simp only [binL,List.mem_cons,List.not_mem_nil,or_false] at h
 rcases h with rfl | rfl | rfl | rfl | rfl | rfl | rfl | rfl | rfl | rfl | rfl <;> exact ⟨⟨rfl,rfl⟩,rfl,rfl⟩
theorem bin_bind {s : Str} (h : s ∈ binL) (r : List PTok) : qa4 (tokW s :: r) = s ∧ 3 ≤ qbo s ∧ qbo s ≤ 7 := by
 simp only [binL,List.mem_cons,List.not_mem_nil,or_false] at h
 rcases h with rfl | rfl | rfl | rfl | rfl | rfl | rfl | rfl | rfl | rfl | rfl <;> exact ⟨rfl,by decide,by decide⟩
theorem tw1 (w : Str) (l : List Str) (r : List PTok) : toks (w :: l) ++ r = tokW w :: (toks l ++ r) := rfl
theorem tw0 (r : List PTok) : toks [] ++ r = r := rfl
theorem twa (a b : List Str) (r : List PTok) : toks (a ++ b) ++ r = toks a ++ (toks b ++ r) := by rw [toks_app,List.append_assoc]
theorem back_un (s : Str) (k : PExpr) (hs : s ∈ unL) (hb : Back k) (hf : Fst k) : Back (eUn s k) := by
 intro o r hd _
 have p_k := qgl k
 have hn : nd (eUn s k) = nd k + 1 := by simp only [eUn,nd,ndL]; omega
 have hw : (eUn s k).words = [[40],s] ++ k.words ++ [[41]] := by rw [qaq]; rfl
 rw [hw]; simp only [twa,tw1,tw0]
 refine Ev.paren (Ev.infStop (by decide) (Ev.un (by omega) ?_) rfl)
 have hk : Ev (fun _ n => pE n (o + 1) 0 (toks k.words ++ tokW [41] :: r)) (.ok k (tokW [41] :: r)) := hb.unary hf (by omega) (by omega) (qir r).1
 simp only [unL,List.mem_cons,List.not_mem_nil,or_false] at hs
 rcases hs with rfl | rfl
 ·exact Ev.congr (g := fun _ n => (pE n (o + 1) 0 (toks k.words ++ tokW [41] :: r)).bind fun k ts => .ok (eUn [110,111,116] k) ts) (fun _ _ => rfl) (Ev.bind (k := fun _ _ k ts => .ok (eUn [110,111,116] k) ts) hk (Ev.pure fun _ _ => rfl))
 ·exact Ev.congr (g := fun _ n => (pE n (o + 1) 0 (toks k.words ++ tokW [41] :: r)).bind fun k ts => .ok (eUn [45] k) ts) (fun _ _ => rfl) (Ev.bind (k := fun _ _ k ts => .ok (eUn [45] k) ts) hk (Ev.pure fun _ _ => rfl))
theorem back_pre (k : PExpr) (hb : Back k) (hf : Fst k) : Back (ePre k) := by
 intro o r hd _
 have p_k := qgl k
 have hn : nd (ePre k) = nd k + 1 := by simp only [ePre,nd,ndL]; omega
 have hw : (ePre k).words = [[40],[112,114,101]] ++ k.words ++ [[41]] := by rw [qaq]; rfl
 rw [hw]; simp only [twa,tw1,tw0]
 refine Ev.paren (Ev.infStop (by decide) (Ev.un (by omega) ?_) rfl)
 have hk : Ev (fun _ n => pE n (o + 1) 0 (toks k.words ++ tokW [41] :: r)) (.ok k (tokW [41] :: r)) := hb.unary hf (by omega) (by omega) (qir r).1
 exact Ev.congr (g := fun _ n => (pE n (o + 1) 0 (toks k.words ++ tokW [41] :: r)).bind fun k ts => .ok (ePre k) ts) (fun _ _ => rfl) (Ev.bind (k := fun _ _ k ts => .ok (ePre k) ts) hk (Ev.pure fun _ _ => rfl))
theorem back_if (a b c : PExpr) (ha : Back a) (fa : Fst a) (hb : Back b) (fb : Fst b) (hc : Back c) (fc : Fst c) : Back (eIf a b c) := by
 intro o r hd _
 have p_a := qgl a
 have p_b := qgl b
 have p_c := qgl c
 have hn : nd (eIf a b c) = max (nd a) (max (nd b) (nd c)) + 1 := by simp only [eIf,nd,ndL]; omega
 have hw : (eIf a b c).words = [[40],[105,102]] ++ a.words ++ [[116,104,101,110]] ++ b.words ++ [[101,108,115,101]] ++ c.words ++ [[41]] := by rw [qaq]; rfl
 rw [hw]; simp only [twa,tw1,tw0]
 refine Ev.paren (Ev.infStop (by decide) (Ev.un (by omega) ?_) rfl)
 obtain ⟨tc,htc⟩ : ∃ t,t = toks c.words ++ tokW [41] :: r := ⟨_,rfl⟩
 obtain ⟨tb,htb⟩ : ∃ t,t = toks b.words ++ tokW [101,108,115,101] :: tc := ⟨_,rfl⟩
 have h1 : Ev (fun _ n => pE n (o + 1) 1 (toks a.words ++ tokW [116,104,101,110] :: tb)) (.ok a (tokW [116,104,101,110] :: tb)) := ha.inf fa (by decide) (by omega) (by omega) (qzm _)
 have h2 : Ev (fun _ n => pE n (o + 1) 1 (toks b.words ++ tokW [101,108,115,101] :: tc)) (.ok b (tokW [101,108,115,101] :: tc)) := hb.inf fb (by decide) (by omega) (by omega) (stop_else _)
 have h3 : Ev (fun _ n => pE n (o + 1) 1 (toks c.words ++ tokW [41] :: r)) (.ok c (tokW [41] :: r)) := hc.inf fc (by decide) (by omega) (by omega) (qir _)
 rw [← htc,← htb]
 refine Ev.congr (g := fun _ n => (pE n (o + 1) 1 (toks a.words ++ tokW [116,104,101,110] :: tb)).bind fun a ts => qau [116,104,101,110] ts fun ts => (pE n (o + 1) 1 ts).bind fun b ts => qau [101,108,115,101] ts fun ts => (pE n (o + 1) 1 ts).bind fun c ts => .ok (eIf a b c) ts) (fun _ _ => rfl) ?_
 refine Ev.bind (k := fun _ n a ts => qau [116,104,101,110] ts fun ts => (pE n (o + 1) 1 ts).bind fun b ts => qau [101,108,115,101] ts fun ts => (pE n (o + 1) 1 ts).bind fun c ts => .ok (eIf a b c) ts) h1 ?_
 refine Ev.congr (g := fun _ n => (pE n (o + 1) 1 tb).bind fun b ts => qau [101,108,115,101] ts fun ts => (pE n (o + 1) 1 ts).bind fun c ts => .ok (eIf a b c) ts) (fun _ _ => rfl) ?_
 rw [htb]
 refine Ev.bind (k := fun _ n b ts => qau [101,108,115,101] ts fun ts => (pE n (o + 1) 1 ts).bind fun c ts => .ok (eIf a b c) ts) h2 ?_
 refine Ev.congr (g := fun _ n => (pE n (o + 1) 1 tc).bind fun c ts => .ok (eIf a b c) ts) (fun _ _ => rfl) ?_
 rw [htc]
 exact Ev.bind (k := fun _ n c ts => .ok (eIf a b c) ts) h3 (Ev.pure fun _ _ => rfl)
theorem back_bin (s : Str) (a b : PExpr) (hs : s ∈ binL) (ha : Back a) (fa : Fst a) (hb : Back b) (fb : Fst b) : Back (eBin s a b) := by
 intro o r hd _
 have p_a := qgl a
 have p_b := qgl b
 have hn : nd (eBin s a b) = max (nd a) (nd b) + 1 := by simp only [eBin,nd,ndL]; omega
 have hw : (eBin s a b).words = [[40]] ++ a.words ++ [s] ++ b.words ++ [[41]] := by rw [qaq]; rfl
 rw [hw]; simp only [twa,tw1,tw0]
 obtain ⟨tb,htb⟩ : ∃ t,t = toks b.words ++ tokW [41] :: r := ⟨_,rfl⟩
 rw [← htb]
 obtain ⟨k1,k2,k3⟩ := bin_bind hs tb
 refine Ev.paren (Ev.inf (by decide) (ha.unary fa (by omega) (by omega) (stop_bin hs tb)) ?_)
 refine Ev.succ (g := fun m n => (pE n o (qbo s + 1) tb).bind fun r ts' => qe8 (pE n) o 1 m (if qbo s = 5 then 4 else qbo s) (eBin s a r) ts') (fun m n => ?_) ?_
 ·simp only [qe8,k1]
  rw [if_neg (by omega),if_neg (by omega),if_neg (by omega)]; rfl
 ·rw [htb]
  exact Ev.bind (k := fun m n r ts' => qe8 (pE n) o 1 m (if qbo s = 5 then 4 else qbo s) (eBin s a r) ts') (hb.inf fb (by omega) (by omega) (by omega) (qir r)) (Ev.loop0 (by decide) rfl)
theorem back_fby (a b : PExpr) (ha : Back a) (fa : Fst a) (hb : Back b) (fb : Fst b) : Back (eFby a b) := by
 intro o r hd _
 have p_a := qgl a
 have p_b := qgl b
 have hn : nd (eFby a b) = max (nd a) (nd b) + 1 := by simp only [eFby,nd,ndL]; omega
 have hw : (eFby a b).words = [[40]] ++ a.words ++ [[102,98,121]] ++ b.words ++ [[41]] := by rw [qaq]; rfl
 rw [hw]; simp only [twa,tw1,tw0]
 refine Ev.paren (Ev.inf (by decide) (ha.unary fa (by omega) (by omega) ⟨⟨rfl,rfl⟩,rfl,rfl⟩) ?_)
 refine Ev.succ (g := fun m n => (pE n o 2 (toks b.words ++ tokW [41] :: r)).bind fun r ts' => qe8 (pE n) o 1 m 1 (eFby a r) ts') (fun m n => rfl) ?_
 exact Ev.bind (k := fun m n r ts' => qe8 (pE n) o 1 m 1 (eFby a r) ts') (hb.inf fb (by omega) (by omega) (by omega) (qir r)) (Ev.loop0 (by decide) rfl)
theorem q5a (a b : PExpr) (ha : Back a) (fa : Fst a) (hb : Back b) (fb : Fst b) : Back (qgk a b) := by
 intro o r hd _
 have p_a := qgl a
 have p_b := qgl b
 have hn : nd (qgk a b) = max (nd a) (nd b) + 1 := by simp only [qgk,nd,ndL]; omega
 have hw : (qgk a b).words = [[40]] ++ a.words ++ [[45,62]] ++ b.words ++ [[41]] := by rw [qaq]; rfl
 rw [hw]; simp only [twa,tw1,tw0]
 refine Ev.paren (Ev.inf (by decide) (ha.unary fa (by omega) (by omega) ⟨⟨rfl,rfl⟩,rfl,rfl⟩) ?_)
 refine Ev.succ (g := fun m n => (pE n o 1 (toks b.words ++ tokW [41] :: r)).bind fun r ts' => .ok (qgk a r) ts') (fun m n => rfl) ?_
 exact Ev.bind (k := fun m n r ts' => .ok (qgk a r) ts') (hb.inf fb (by omega) (by omega) (by omega) (qir r)) (Ev.pure fun _ _ => rfl)
theorem q5b (a b : PExpr) (hop : a.op = 14) (ha : Back a) (fa : Fst a) (hb : Back b) (fb : Fst b) : Back (qe3 a b) := by
 intro o r hd _
 have p_a := qgl a
 have p_b := qgl b
 have hn : nd (qe3 a b) = max (nd a) (nd b) + 1 := by simp only [qe3,nd,ndL]; omega
 have hw : (qe3 a b).words = [[40]] ++ a.words ++ [[101,118,101,114,121]] ++ b.words ++ [[41]] := by rw [qaq]; rfl
 rw [hw]; simp only [twa,tw1,tw0]
 refine Ev.paren (Ev.infStop (by decide) (Ev.unary ?_ (fa _) (by omega)) rfl)
 unfold qex
 refine Ev.bind (f := fun m n => qjf m (pE n) (o + 1) _) (k := fun m n e ts => (if e.op == 14 && hasS [101,118,101,114,121] ts then (pE n (o + 1) 0 ts.tail).bind fun k ts => .ok (qe3 e k) ts else .ok e ts).bind fun e ts => qeo m e ts) (ha (o + 1) _ (by omega) ⟨rfl,rfl⟩) ?_
 refine Ev.congr (g := fun m n => ((pE n (o + 1) 0 (toks b.words ++ tokW [41] :: r)).bind fun k ts => .ok (qe3 a k) ts).bind fun e ts => qeo m e ts) (fun m n => ?_) ?_
 ·simp only [hop]; rfl
 ·refine Ev.bind (k := fun m _ e ts => qeo m e ts) (f := fun _ n => (pE n (o + 1) 0 (toks b.words ++ tokW [41] :: r)).bind fun k ts => .ok (qe3 a k) ts) ?_ (Ev.when0 rfl)
  exact Ev.bind (k := fun _ _ k ts => .ok (qe3 a k) ts) (hb.unary fb (by omega) (by omega) (qir r).1) (Ev.pure fun _ _ => rfl)
theorem back_when (x c : Str) (k : PExpr) (hx : qch x = true) (hc : qfe c = true) (hb : Back k) (hf : Fst k) : Back (qje x c k) := by
 intro o r hd _
 have p_k := qgl k
 have hn : nd (qje x c k) = nd k + 1 := by simp only [qje,nd,ndL]; omega
 have hw : (qje x c k).words = [[40]] ++ k.words ++ [[119,104,101,110]] ++ [c] ++ [[40],x,[41],[41]] := by rw [qaq]; rfl
 rw [hw]; simp only [twa,tw1,tw0]
 refine Ev.paren (Ev.infStop (by decide) (Ev.unary ?_ (hf _) (by omega)) rfl)
 unfold qex
 refine Ev.bind (f := fun m n => qjf m (pE n) (o + 1) _) (k := fun m n e ts => (if e.op == 14 && hasS [101,118,101,114,121] ts then (pE n (o + 1) 0 ts.tail).bind fun k ts => .ok (qe3 e k) ts else .ok e ts).bind fun e ts => qeo m e ts) (hb (o + 1) _ (by omega) ⟨rfl,rfl⟩) ?_
 rw [qer hx,qjz hc]
 refine Ev.congr (g := fun m n => qeo m k (tokW [119,104,101,110] :: ⟨2,c,0,0,0⟩ :: tokW [40] :: ⟨1,x,0,0,0⟩ :: tokW [41] :: tokW [41] :: r)) (fun m n => ?_) ?_
 ·have : hasS [101,118,101,114,121] (tokW [119,104,101,110] :: ⟨2,c,0,0,0⟩ :: tokW [40] :: ⟨1,x,0,0,0⟩ :: tokW [41] :: tokW [41] :: r) = false := rfl
  simp only [this,Bool.and_false]; rfl
 ·exact Ev.succ (g := fun m _ => qeo m (qje x c k) (tokW [41] :: r)) (fun m n => rfl) (Ev.when0 rfl)
theorem qoi (sort : Int) (sep : Str) (hsep : hasS sep (tokW sep :: []) = true) (l : List Str) (hl : l ≠ []) (ht : ∀ x ∈ l,tokW x = ⟨sort,x,0,0,0⟩) (r : List PTok) (hr : hasS sep r = false) : Ev (fun m _ => qe6 sort sep m (toks (qb8 l sep) ++ r)) (.ok l r) := by
 induction l with
 | nil => exact absurd rfl hl
 | cons x q ih =>
  cases q with
  | nil =>
   have hw : qb8 [x] sep = [x] := by simp [qb8,sepW]
   rw [hw]; simp only [tw1,tw0,ht x (by simp)]
   refine Ev.succ (g := fun _ _ => .ok [x] r) (fun m _ => ?_) (Ev.pure fun _ _ => rfl)
   simp only [qe6,qfh,beq_self_eq_true,if_true,hr]; rfl
  | cons y q =>
   have hw : qb8 (x :: y :: q) sep = x :: sep :: qb8 (y :: q) sep := by simp [qb8,sepW]
   rw [hw]; simp only [tw1,ht x (by simp)]
   have hs : ∀ t,hasS sep (tokW sep :: t) = true := fun t => hsep
   refine Ev.succ (g := fun m _ => (qe6 sort sep m (toks (qb8 (y :: q) sep) ++ r)).bind fun l ts => .ok (x :: l) ts) (fun m _ => ?_) ?_
   ·simp only [qe6,qfh,beq_self_eq_true,if_true,hs,List.tail_cons]
   ·exact Ev.bind (k := fun _ _ l ts => .ok (x :: l) ts) (ih (by simp) (fun z hz => ht z (by simp [hz]))) (Ev.pure fun _ _ => rfl)
theorem q2a (s : Str) (x y : List Str) (r : List (List Str)) : sepW s (x :: y :: r) = x ++ s :: sepW s (y :: r) := by simp [sepW]
theorem q5c (o : Nat) (kids : List PExpr) (hk : kids ≠ []) (hb : ∀ k ∈ kids,Back k ∧ Fst k) (ho : o < 100) (hd : o + 1 + 2 * ndL kids ≤ 102) (r : List PTok) : Ev (fun m n => qd8 (pE n) o m (toks (sepW [44] (kids.map PExpr.words)) ++ tokW [41] :: r)) (.ok kids (tokW [41] :: r)) := by
 induction kids with
 | nil => exact absurd rfl hk
 | cons x q ih =>
  obtain ⟨bx,fx⟩ := hb x (by simp)
  simp only [ndL] at hd
  cases q with
  | nil =>
   have hw : sepW [44] ([x].map PExpr.words) = x.words := by simp [sepW]
   rw [hw]
   refine Ev.succ (g := fun m n => (pE n o 1 (toks x.words ++ tokW [41] :: r)).bind fun e ts => if hasS [44] ts = true then (qd8 (pE n) o m ts.tail).bind fun l ts => .ok (e :: l) ts else .ok [e] ts) (fun m n => rfl) ?_
   exact Ev.bind (k := fun m n e ts => if hasS [44] ts = true then (qd8 (pE n) o m ts.tail).bind fun l ts => .ok (e :: l) ts else .ok [e] ts) (bx.inf fx (by decide) (by omega) ho (qir r)) (Ev.pure fun _ _ => rfl)
  | cons y q =>
   have hw : sepW [44] ((x :: y :: q).map PExpr.words) = x.words ++ [44] :: sepW [44] ((y :: q).map PExpr.words) := by simp only [List.map_cons,q2a]
   rw [hw,twa,tw1]
   refine Ev.succ (g := fun m n => (pE n o 1 (toks x.words ++ tokW [44] :: (toks (sepW [44] ((y :: q).map PExpr.words)) ++ tokW [41] :: r))).bind fun e ts => if hasS [44] ts = true then (qd8 (pE n) o m ts.tail).bind fun l ts => .ok (e :: l) ts else .ok [e] ts) (fun m n => rfl) ?_
   refine Ev.bind (k := fun m n e ts => if hasS [44] ts = true then (qd8 (pE n) o m ts.tail).bind fun l ts => .ok (e :: l) ts else .ok [e] ts) (bx.inf fx (by decide) (by omega) ho (q49 _)) ?_
   refine Ev.congr (g := fun m n => (qd8 (pE n) o m (toks (sepW [44] ((y :: q).map PExpr.words)) ++ tokW [41] :: r)).bind fun l ts => .ok (x :: l) ts) (fun m n => rfl) ?_
   exact Ev.bind (k := fun _ _ l ts => .ok (x :: l) ts) (ih (by simp) (fun k hk => hb k (by simp [hk])) (by omega)) (Ev.pure fun _ _ => rfl)
theorem arms_back (o : Nat) (kids : List PExpr) : ∀ (cons : List Str),kids ≠ [] → cons.length = kids.length → (∀ c ∈ cons,qfe c = true) → (∀ k ∈ kids,Back k ∧ Fst k) → o < 100 → o + 1 + 2 * ndL kids ≤ 102 → ∀ (r : List PTok),
 Ev (fun m n => qe7 (pE n) o m (toks (sepW [124] (armL cons (kids.map PExpr.words))) ++ tokW [41] :: r)) (.ok (cons.zip kids) (tokW [41] :: r)) := by
 induction kids with
 | nil => intro cons h; exact absurd rfl h
 | cons x q ih =>
  intro cons _ hl hc hb ho hd r
  obtain ⟨bx,fx⟩ := hb x (by simp)
  simp only [ndL] at hd
  cases cons with
  | nil => simp at hl
  | cons c cs =>
  have hcc := qjz (hc c (by simp))
  cases q with
  | nil =>
   have hcs : cs = [] := List.eq_nil_of_length_eq_zero (by simpa using hl)
   subst hcs
   have hw : sepW [124] (armL [c] ([x].map PExpr.words)) = [c,[45,62]] ++ x.words := by simp [sepW,armL]
   rw [hw,twa,tw1,tw1,tw0,hcc]
   refine Ev.succ (g := fun m n => (pE n o 1 (toks x.words ++ tokW [41] :: r)).bind fun e ts => if hasS [124] ts = true then (qe7 (pE n) o m ts.tail).bind fun l ts => .ok ((c,e) :: l) ts else .ok [(c,e)] ts) (fun m n => rfl) ?_
   exact Ev.bind (k := fun m n e ts => if hasS [124] ts = true then (qe7 (pE n) o m ts.tail).bind fun l ts => .ok ((c,e) :: l) ts else .ok [(c,e)] ts) (bx.inf fx (by decide) (by omega) ho (qir r)) (Ev.pure fun _ _ => rfl)
  | cons y q =>
   obtain ⟨d,ds,rfl⟩ : ∃ d ds,cs = d :: ds := by
    cases cs with
    | nil => simp at hl
    | cons d ds => exact ⟨d,ds,rfl⟩
   have hw : sepW [124] (armL (c :: d :: ds) ((x :: y :: q).map PExpr.words)) = ([c,[45,62]] ++ x.words) ++ [124] :: sepW [124] (armL (d :: ds) ((y :: q).map PExpr.words)) := by simp only [List.map_cons,armL,List.zipWith_cons_cons,q2a]
   rw [hw,twa,twa,tw1,tw1,tw1,tw0,hcc]
   refine Ev.succ (g := fun m n => (pE n o 1 (toks x.words ++ tokW [124] :: (toks (sepW [124] (armL (d :: ds) ((y :: q).map PExpr.words))) ++ tokW [41] :: r))).bind fun e ts => if hasS [124] ts = true then (qe7 (pE n) o m ts.tail).bind fun l ts => .ok ((c,e) :: l) ts else .ok [(c,e)] ts) (fun m n => rfl) ?_
   refine Ev.bind (k := fun m n e ts => if hasS [124] ts = true then (qe7 (pE n) o m ts.tail).bind fun l ts => .ok ((c,e) :: l) ts else .ok [(c,e)] ts) (bx.inf fx (by decide) (by omega) ho (stop_bar _)) ?_
   refine Ev.congr (g := fun m n => (qe7 (pE n) o m (toks (sepW [124] (armL (d :: ds) ((y :: q).map PExpr.words))) ++ tokW [41] :: r)).bind fun l ts => .ok ((c,x) :: l) ts) (fun m n => rfl) ?_
   exact Ev.bind (k := fun _ _ l ts => .ok ((c,x) :: l) ts) (ih (d :: ds) (by simp) (by simpa using hl) (fun z hz => hc z (by simp [hz])) (fun k hk => hb k (by simp [hk])) ho (by omega) r) (Ev.pure fun _ _ => rfl)
theorem qzn (op : Int) (word : Str) (hop : op = 12 ∧ word = [109,101,114,103,101] ∨ op = 13 ∧ word = [109,97,116,99,104]) (x : Str) (cons : List Str) (kids : List PExpr) (hx : qch x = true) (hl : cons.length = kids.length) (h1 : 1 ≤ cons.length) (hc : ∀ c ∈ cons,qfe c = true) (hb : ∀ k ∈ kids,Back k ∧ Fst k) : Back (.mk op x 0 cons kids) := by
 intro o r hd _
 have hn : nd (.mk op x 0 cons kids) = ndL kids + 1 := by simp only [nd]
 have hne : kids ≠ [] := by intro e; have := congrArg List.length e; simp only [List.length_nil] at this; omega
 have hp : 1 ≤ ndL kids := by
  cases kids with
  | nil => exact absurd rfl hne
  | cons k q => cases k; simp only [ndL,nd]; omega
 have hw : (PExpr.mk op x 0 cons kids).words = [word,x,[40]] ++ sepW [124] (armL cons (kids.map PExpr.words)) ++ [[41]] := by
  rw [qaq]; rcases hop with ⟨rfl,rfl⟩ | ⟨rfl,rfl⟩ <;> rfl
 rw [hw]; simp only [twa,tw1,tw0]
 rw [qer hx]
 have key := arms_back o kids cons hne hl hc hb (by omega) (by omega) r
 have hz1 : (cons.zip kids).map (·.1) = cons := List.map_fst_zip (by omega)
 have hz2 : (cons.zip kids).map (·.2) = kids := List.map_snd_zip (by omega)
 refine Ev.congr (g := fun m n => (qe7 (pE n) o m (toks (sepW [124] (armL cons (kids.map PExpr.words))) ++ tokW [41] :: r)).bind fun l ts => qau [41] ts fun ts => .ok (PExpr.mk op x 0 (l.map (·.1)) (l.map (·.2))) ts) (fun m n => ?_) ?_
 ·rcases hop with ⟨rfl,rfl⟩ | ⟨rfl,rfl⟩ <;> rfl
 ·refine Ev.bind (k := fun _ _ l ts => qau [41] ts fun ts => .ok (PExpr.mk op x 0 (l.map (·.1)) (l.map (·.2))) ts) key (Ev.pure fun _ _ => ?_)
  show PR.ok (PExpr.mk op x 0 ((cons.zip kids).map (·.1)) ((cons.zip kids).map (·.2))) r = _
  rw [hz1,hz2]
theorem back_call (x : Str) (cons : List Str) (kids : List PExpr) (hx : qch x = true) (hc : ∀ c ∈ cons,qch c = true) (h1 : 1 ≤ kids.length) (hb : ∀ k ∈ kids,Back k ∧ Fst k) : Back (.mk 14 x 0 cons kids) := by
 intro o r hd _
 have hn : nd (.mk 14 x 0 cons kids) = ndL kids + 1 := by simp only [nd]
 have hne : kids ≠ [] := by intro e; have := congrArg List.length e; simp only [List.length_nil] at this; omega
 have hp : 1 ≤ ndL kids := by
  cases kids with
  | nil => exact absurd rfl hne
  | cons k q => cases k; simp only [ndL,nd]; omega
 have hw : (PExpr.mk 14 x 0 cons kids).words = [x] ++ brW cons ++ [[40]] ++ sepW [44] (kids.map PExpr.words) ++ [[41]] := by rw [qaq]; rfl
 rw [hw]; simp only [twa,tw1,tw0]
 rw [qer hx]
 have key := q5c o kids hne hb (by omega) (by omega) r
 obtain ⟨R,hR⟩ : ∃ t,t = toks (sepW [44] (kids.map PExpr.words)) ++ tokW [41] :: r := ⟨_,rfl⟩
 rw [← hR] at key ⊢
 have fin : ∀ c,Ev (fun m n => (qd8 (pE n) o m R).bind fun l ts => qau [41] ts fun ts => .ok (PExpr.mk 14 x 0 c l) ts) (.ok (PExpr.mk 14 x 0 c kids) r) := fun c =>
  Ev.bind (k := fun _ _ l ts => qau [41] ts fun ts => .ok (PExpr.mk 14 x 0 c l) ts) key (Ev.pure fun _ _ => rfl)
 by_cases h0 : cons.length = 0
 ·have : cons = [] := List.eq_nil_of_length_eq_zero h0
  subst this
  have hbr : brW [] = [] := rfl
  rw [hbr,tw0]
  exact Ev.congr (fun m n => rfl) (fin [])
 ·have hbr : brW cons = [[91]] ++ qb8 cons [44] ++ [[93]] := by unfold brW; rw [if_neg h0]
  rw [hbr]; simp only [twa,tw1,tw0]
  have hs := qoi 1 [44] rfl cons (by intro e; rw [e] at h0; exact h0 rfl) (fun c hx => qer (hc c hx)) (tokW [93] :: tokW [40] :: R) rfl
  refine Ev.congr (g := fun m n => ((qe6 1 [44] m (toks (qb8 cons [44]) ++ tokW [93] :: tokW [40] :: R)).bind fun l ts => qau [93] ts fun ts => .ok l ts).bind fun c ts => qau [40] ts fun ts => (qd8 (pE n) o m ts).bind fun l ts => qau [41] ts fun ts => .ok (PExpr.mk 14 x 0 c l) ts) (fun m n => rfl) ?_
  refine Ev.bind (k := fun m n c ts => qau [40] ts fun ts => (qd8 (pE n) o m ts).bind fun l ts => qau [41] ts fun ts => .ok (PExpr.mk 14 x 0 c l) ts) (a := cons) (ts := tokW [40] :: R) ?_ ?_
  ·exact Ev.bind (k := fun _ _ l ts => qau [93] ts fun ts => .ok l ts) hs (Ev.pure fun _ _ => rfl)
  ·exact Ev.congr (fun m n => rfl) (fin cons)
theorem qes {e : PExpr} (g : Good e) (hr : qbr e.n) : Fst e := by
 intro r m R o
 cases g with
 | int n h => 
  have hw : (eInt n).words = [decB n] := by rw [qaq]; rfl
  rw [hw,tw1,qyb h hr.2]; rfl
 | bool n h => rcases h with rfl | rfl <;> (rw [qaq]; rfl)
 | con s h => 
  have hw : (eCon s).words = [s] := by rw [qaq]; rfl
  rw [hw,tw1,qjz h]; rfl
 | var s h =>
  have hw : (eVar s).words = [s] := by rw [qaq]; rfl
  rw [hw,tw1,qer h]; rfl
 | un s k => rw [qaq]; rfl
 | bin s a b => rw [qaq]; rfl
 | cond a b c => rw [qaq]; rfl
 | fby a b => rw [qaq]; rfl
 | pre k => rw [qaq]; rfl
 | arrow a b => rw [qaq]; rfl
 | when x c k => rw [qaq]; rfl
 | arms op x cons kids hop => rcases hop with rfl | rfl <;> (rw [qaq]; rfl)
 | call x cons kids h =>
  have hw : (PExpr.mk 14 x 0 cons kids).words = [x] ++ (brW cons ++ ([[40]] ++ (sepW [44] (kids.map PExpr.words) ++ [[41]]))) := by rw [qaq]; simp [qmr,qob,PExpr.op,PExpr.name,PExpr.cons,PExpr.kids]
  rw [hw,twa,tw1,qer h]; rfl
 | every k x => rw [qaq]; rfl
end Go.Ab
