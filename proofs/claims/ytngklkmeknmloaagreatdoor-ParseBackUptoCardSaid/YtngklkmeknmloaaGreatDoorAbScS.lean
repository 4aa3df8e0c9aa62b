/- Parse and Expr of a text that reads. -/
import Derived.Test.YtngklkmeknmloaaGreatDoorAbTok
import Derived.Test.YtngklkmeknmloaaGreatDoorAbShow
import Derived.Test.YtngklkmeknmloaaGreatDoorAbInv
import Derived.Test.YtngklkmeknmloaaGreatDoorAbTypes
import Derived.Test.YtngklkmeknmloaaGreatDoorAbPsY
import Derived.Test.YtngklkmeknmloaaGreatDoorAbDfS
import Derived.Test.YtngklkmeknmloaaGreatDoorAbEach
set_option linter.unusedSimpArgs false
set_option linter.unusedVariables false
set_option maxRecDepth 100000
set_option maxHeartbeats 4000000
open Go.Proofs
namespace Go.Ab
open Go Go.Ab.Tab
def atP (text : Str) (k : Nat) (t : PTok) : PTok := ⟨t.sort,t.text,t.n,(plc (text.take k)).1,(plc (text.take k)).2⟩
def endT : PTok := ⟨6,[],0,0,0⟩
def qc3 (text : Str) : Nat → Nat → Option (List PTok) × Nat
 | 0,k => (none,k)
 | f + 1,k => if k + gapS false (text.drop k) = text.length then (some [atP text (k + gapS false (text.drop k)) endT],0)
  else if (lexT (text.drop (k + gapS false (text.drop k)))).2 = true then
   (match qc3 text f (k + gapS false (text.drop k) + (lexT (text.drop (k + gapS false (text.drop k)))).1.text.length) with
   | (some l,p) => (some (atP text (k + gapS false (text.drop k)) (lexT (text.drop (k + gapS false (text.drop k)))).1 :: l),p)
   | (none,p) => (none,p))
  else (none,k + gapS false (text.drop k))
def strip (t : PTok) : PTok := ⟨t.sort,t.text,t.n,0,0⟩
theorem q2f (text : Str) (k : Nat) (t : PTok) (h : t = strip t) : strip (atP text k t) = t := by
 rw [h]; rfl
def Brk (p : Int → Bool) (r : Str) : Prop := r = [] ∨ ∃ c t,r = c :: t ∧ p c.toNat = false
theorem qon {p : Int → Bool} : ∀ {w r : Str},qa5 p w = w.length → Brk p r → qa5 p (w ++ r) = w.length
 | [],r,_,h => by
  rcases h with rfl | ⟨c,t,rfl,hc⟩
  ·rfl
  ·simp only [List.nil_append,qa5,hc]; rfl
 | c :: w,r,h,hb => by
  simp only [qa5] at h
  split at h
  ·rename_i hc
   simp only [List.cons_append,qa5,hc,if_true,List.length_cons] at h ⊢
   rw [qon (by omega) hb]
  ·simp at h
def Bl (r : Str) : Prop := r = [] ∨ ∃ t,r = 32 :: t
theorem Bl.brk {r : Str} (h : Bl r) (p : Int → Bool) (hp : p 32 = false) : Brk p r := by
 rcases h with rfl | ⟨t,rfl⟩
 ·exact .inl rfl
 ·exact .inr ⟨32,t,rfl,hp⟩
theorem wordD_app {w r : Str} (h : qa5 qbn w = w.length) (hb : Bl r) : qdt (w ++ r) = w := by
 unfold qdt
 rw [qon h (hb.brk qbn rfl),List.take_left]
theorem qm7 {w r : Str} {c : UInt8} {t : Str} (hw : w = c :: t) (hd : qb1 c.toNat = false) (hl : (qea c.toNat || qdq c.toNat) = true) (hs : qa5 qbn w = w.length) (h24 : w.length ≤ 24) (hb : Bl r) :
 lexT (w ++ r) = (⟨if wordL.any (w == ·) then 5 else if qdq c.toNat then 2 else 1,w,0,0,0⟩,true) := by
 have e := wordD_app hs hb
 subst hw
 rw [List.cons_append] at e ⊢
 simp only [lexT,hd,hl,if_true,qog,e,List.headD_cons]
 rw [decide_eq_true h24]; rfl
theorem qzs : ∀ w ∈ wordL,qlg w = 5 ∧ qa5 qbn w = w.length ∧ w.length ≤ 24 ∧ w ≠ [] := by decide
theorem sign_tok : ∀ w ∈ quf,qlg w = 4 := by decide
theorem sign_lex {w : Str} (h : w ∈ quf) {r : Str} (hb : Bl r) : lexT (w ++ r) = (⟨4,w,0,0,0⟩,true) := by
 simp only [quf,List.mem_cons,List.not_mem_nil,or_false] at h
 rcases hb with rfl | ⟨t,rfl⟩
 ·rcases h with rfl | rfl | rfl | rfl | rfl | rfl | rfl | rfl | rfl | rfl | rfl | rfl | rfl | rfl | rfl | rfl | rfl | rfl <;> rfl
 ·rcases h with rfl | rfl | rfl | rfl | rfl | rfl | rfl | rfl | rfl | rfl | rfl | rfl | rfl | rfl | rfl | rfl | rfl | rfl <;> rfl
theorem dig_span {w : Str} (h : qdr w = true) : qa5 qb1 w = w.length := by
 induction w with
 | nil => rfl
 | cons c t ih =>
  unfold qdr at h
  rw [List.all_cons,Bool.and_eq_true] at h
  simp only [qa5,h.1,if_true,List.length_cons,ih h.2]
theorem dig_inner {w : Str} (h : qdr w = true) : qa5 qbn w = w.length := by
 induction w with
 | nil => rfl
 | cons c t ih =>
  unfold qdr at h
  rw [List.all_cons,Bool.and_eq_true] at h
  have : qbn c.toNat = true := by unfold qbn; rw [h.1]; simp
  simp only [qa5,this,if_true,List.length_cons,ih h.2]
theorem qzt : ∀ (f n : Nat),n < 10 ^ f → 0 < f → decN f n = [48] ∨ (0 < n ∧ ∃ c t,decN f n = c :: t ∧ c ≠ 48)
 | 0,n,_,h0 => by omega
 | f + 1,n,h,_ => by
  rw [qzk]
  by_cases hn : n < 10
  ·rw [if_pos hn]
   by_cases hz : n = 0
   ·subst hz; exact .inl rfl
   ·refine .inr ⟨by omega,_,[],rfl,fun e => ?_⟩
    have := congrArg UInt8.toNat e
    rw [qov n hn] at this
    have h48 : (48 : UInt8).toNat = 48 := rfl
    omega
  ·rw [if_neg hn]
   have h10 : n / 10 < 10 ^ f := by
    rw [Nat.pow_succ] at h
    exact Nat.div_lt_of_lt_mul (by rw [Nat.mul_comm]; exact h)
   have hf : 0 < f := by
    cases f with
    | zero => simp at h; omega
    | succ f => omega
   rcases qzt f (n / 10) h10 hf with h1 | ⟨_,c,t,h1,h2⟩
   ·exfalso
    have := (q1z f (n / 10) h10).2.1
    rw [h1] at this
    have h3 : valN 0 [48] = 0 := rfl
    omega
   ·exact .inr ⟨by omega,c,t ++ [UInt8.ofNat (48 + n % 10)],by rw [h1]; rfl,h2⟩
theorem int_lex {n : Int} (h0 : 0 ≤ n) (h1 : n ≤ 9223372036854775807) {r : Str} (hb : Bl r) : lexT (decB n ++ r) = (⟨3,decB n,n,0,0⟩,true) := by
 obtain ⟨a,b,c⟩ := qq8 h0 h1
 have hz : decB n = [48] ∨ (decB n).head? ≠ some 48 := by
  unfold decB
  rw [if_neg (by omega)]
  have hp : (100000000000000000000 : Nat) = 10 ^ 20 := rfl
  rcases qzt 20 n.toNat (by rw [← hp]; omega) (by omega) with h | ⟨_,c,t,h,h2⟩
  ·exact .inl h
  ·refine .inr ?_
   rw [h]; simpa using h2
 generalize decB n = w at a b c hz
 have hnd : numD (w ++ r) = w := by
  unfold numD
  rw [qon (dig_span a) (hb.brk qb1 rfl),List.take_left]
 have hin : qa5 qbn (w ++ r) = w.length := qon (dig_inner a) (hb.brk qbn rfl)
 have hle : valN 0 w ≤ maxI := by unfold maxI; omega
 cases w with
 | nil => exact absurd rfl c
 | cons d t =>
  have hd : qb1 d.toNat = true := by
   unfold qdr at a
   rw [List.all_cons,Bool.and_eq_true] at a; exact a.1
  have hnz : notZ (d :: t) = true := by
   unfold notZ
   rcases hz with hz | hz
   ·rw [hz]; rfl
   ·have : ((d :: t).head? == some (48 : UInt8)) = false := by simpa using hz
    rw [this]; simp
  rw [List.cons_append] at hnd hin ⊢
  have e : lexT (d :: (t ++ r)) = (numT (d :: (t ++ r)),qq9 (d :: (t ++ r))) := by simp only [lexT,hd]; rfl
  rw [e]
  unfold numT qq9
  rw [hnd,hin,if_pos hle,decide_eq_true hle,hnz,b]
  simp
theorem wok_lex {w : Str} (h : WOk w) {r : Str} (hb : Bl r) : lexT (w ++ r) = (tokW w,true) := by
 cases h with
 | name h =>
  have h' := h
  simp only [qch,Bool.and_eq_true,Bool.not_eq_true'] at h'
  obtain ⟨c,t,hw,hc,h24,hs⟩ := qfl h'.1
  rw [qer h]
  rw [← hw] at h24 hs
  rw [qm7 hw (qot _ hc) (by rw [hc]; rfl) hs h24 hb,h'.2,qou _ hc]; rfl
 | con h =>
  obtain ⟨c,t,hw,hc,h24,hs⟩ := qfl h
  rw [qjz h]
  rw [← hw] at h24 hs
  have hn : wordL.any (w == ·) = false := by rw [hw]; exact qsy c t hc
  rw [qm7 hw (quu _ hc) (by rw [hc]; simp) hs h24 hb,hn,hc]; rfl
 | word h =>
  obtain ⟨h1,h2,h3,h4⟩ := qzs w h
  obtain ⟨c,t,hw⟩ : ∃ c t,w = c :: t := by
   cases w with
   | nil => exact absurd rfl h4
   | cons c t => exact ⟨c,t,rfl⟩
  have hlow : qea c.toNat = true := by have := qsx w h; rw [hw] at this; exact this
  have hany := mem_any h
  rw [qm7 hw (qot _ hlow) (by rw [hlow]; rfl) h2 h3 hb,hany]
  unfold tokW; rw [h1]; rfl
 | sign h =>
  rw [sign_lex h hb]
  unfold tokW; rw [sign_tok w h]; rfl
 | int n h0 h1 => rw [int_lex h0 h1 hb,qyb h0 h1]
theorem qrh {w : Str} (h : WOk w) {r : Str} (hb : Bl r) : gapS false (w ++ r) = 0 := by
 have noblank : ∀ (c : UInt8) (t : Str),qeq c.toNat = false → ¬ (c = 45 ∧ t.head? = some 45) → gapS false (c :: t) = 0 := by
  intro c t h1 h2
  simp only [gapS,h1,if_neg h2]; rfl
 have inner : ∀ c : UInt8,qbn c.toNat = true → qeq c.toNat = false ∧ c ≠ 45 := by
  intro c hc
  have hr : qbn c.toNat = true → qeq c.toNat = false := by
   intro h
   unfold qbn qea qdq qb1 at h
   unfold qeq
   simp only [Bool.or_eq_true,Bool.and_eq_true,decide_eq_true_eq,beq_iff_eq] at h
   simp only [Bool.or_eq_false_iff,beq_eq_false_iff_ne,ne_eq]
   omega
  refine ⟨hr hc,fun e => ?_⟩
  subst e; revert hc; decide
 have wl : ∀ (c : UInt8) (t : Str),w = c :: t → qbn c.toNat = true → gapS false (w ++ r) = 0 := by
  intro c t hw hc
  obtain ⟨h1,h2⟩ := inner c hc
  rw [hw,List.cons_append]
  exact noblank c _ h1 (fun h => h2 h.1)
 cases h with
 | name h =>
  simp only [qch,Bool.and_eq_true] at h
  obtain ⟨c,t,hw,hc,_,_⟩ := qfl h.1
  exact wl c t hw (by unfold qbn; rw [hc]; rfl)
 | con h =>
  obtain ⟨c,t,hw,hc,_,_⟩ := qfl h
  exact wl c t hw (by unfold qbn; rw [hc]; simp)
 | word h =>
  obtain ⟨h1,h2,h3,h4⟩ := qzs w h
  obtain ⟨c,t,hw⟩ : ∃ c t,w = c :: t := by
   cases w with
   | nil => exact absurd rfl h4
   | cons c t => exact ⟨c,t,rfl⟩
  have hlow : qea c.toNat = true := by have := qsx w h; rw [hw] at this; exact this
  exact wl c t hw (by unfold qbn; rw [hlow]; rfl)
 | sign h =>
  simp only [quf,List.mem_cons,List.not_mem_nil,or_false] at h
  rcases hb with rfl | ⟨t,rfl⟩
  ·rcases h with rfl | rfl | rfl | rfl | rfl | rfl | rfl | rfl | rfl | rfl | rfl | rfl | rfl | rfl | rfl | rfl | rfl | rfl <;> rfl
  ·rcases h with rfl | rfl | rfl | rfl | rfl | rfl | rfl | rfl | rfl | rfl | rfl | rfl | rfl | rfl | rfl | rfl | rfl | rfl <;> rfl
 | int n h0 h1 =>
  obtain ⟨a,_,c⟩ := qq8 h0 h1
  obtain ⟨d,t,hw⟩ : ∃ d t,decB n = d :: t := by
   cases hh : decB n with
   | nil => exact absurd hh c
   | cons d t => exact ⟨d,t,rfl⟩
  have hd : qb1 d.toNat = true := by
   rw [hw] at a; unfold qdr at a
   rw [List.all_cons,Bool.and_eq_true] at a; exact a.1
  exact wl d t hw (by unfold qbn; rw [hd]; simp)
theorem qxn (w : Str) : tokW w = strip (tokW w) := rfl
theorem qxo : ∀ (ws : List Str) (pre : Str) (f : Nat),ws ≠ [] → Oks ws → ws.length < f → ∃ l e,qc3 (pre ++ J ws) f pre.length = (some (l ++ [e]),0) ∧ l.map strip = toks ws ∧ strip e = endT
 | [],_,_,h,_,_ => absurd rfl h
 | [w],pre,f,_,ho,hf => by
  have hw := ho w (by simp)
  obtain ⟨f,rfl⟩ : ∃ g,f = g + 2 := ⟨f - 2,by simp at hf; omega⟩
  have hd : (pre ++ J [w]).drop pre.length = w := by rw [List.drop_left]; rfl
  have hne : w ≠ [] := (qyj hw).1
  have hg : gapS false w = 0 := by have := qrh hw (r := []) (.inl rfl); rwa [List.append_nil] at this
  have hx : lexT w = (tokW w,true) := by have := wok_lex hw (r := []) (.inl rfl); rwa [List.append_nil] at this
  have hlen : (pre ++ J [w]).length = pre.length + w.length := by rw [List.length_append]; rfl
  have hend : (pre ++ J [w]).drop (pre.length + w.length) = [] := List.drop_eq_nil_of_le (by rw [hlen]; exact Nat.le_refl _)
  have hwl : w.length ≠ 0 := fun e => hne (List.eq_nil_of_length_eq_zero e)
  refine ⟨[atP (pre ++ J [w]) pre.length (tokW w)],atP (pre ++ J [w]) (pre.length + w.length) endT,?_,?_,rfl⟩
  ·have h2 : qc3 (pre ++ J [w]) (f + 1) (pre.length + w.length) = (some [atP (pre ++ J [w]) (pre.length + w.length) endT],0) := by
    rw [qc3,hend]
    have : gapS false ([] : Str) = 0 := rfl
    rw [this,Nat.add_zero,if_pos hlen.symm]
   rw [qc3,hd,hg,Nat.add_zero,if_neg (by rw [hlen]; omega),hd,hx]
   simp only [if_true]
   have ht : (tokW w).text = w := rfl
   rw [ht,h2]; rfl
  ·simp only [List.map_cons,List.map_nil,q2f _ _ _ (qxn w)]; rfl
 | w :: v :: r,pre,f,_,ho,hf => by
  have hw := ho w (by simp)
  obtain ⟨f,rfl⟩ : ∃ g,f = g + 1 := ⟨f - 1,by simp at hf; omega⟩
  have hJ : J (w :: v :: r) = w ++ 32 :: J (v :: r) := qxb w _ (by simp)
  have hd : (pre ++ J (w :: v :: r)).drop pre.length = w ++ 32 :: J (v :: r) := by rw [List.drop_left,hJ]
  have hne : w ≠ [] := (qyj hw).1
  have hg := qrh hw (r := 32 :: J (v :: r)) (.inr ⟨_,rfl⟩)
  have hx := wok_lex hw (r := 32 :: J (v :: r)) (.inr ⟨_,rfl⟩)
  have hlen : (pre ++ J (w :: v :: r)).length = pre.length + (w.length + ((J (v :: r)).length + 1)) := by rw [List.length_append,hJ,List.length_append,List.length_cons]
  obtain ⟨l,e,h1,h2,h3⟩ := qxo (v :: r) (pre ++ w ++ [32]) f (by simp) (fun z hz => ho z (by simp [hz])) (by simp at hf ⊢; omega)
  have hpre : pre ++ w ++ [32] ++ J (v :: r) = pre ++ J (w :: v :: r) := by rw [hJ]; simp
  rw [hpre] at h1
  have hv := ho v (by simp)
  have hgv : gapS false (J (v :: r)) = 0 := by
   cases r with
   | nil => have := qrh hv (r := []) (.inl rfl); rwa [List.append_nil] at this
   | cons y r => rw [qxb v _ (by simp)]; exact qrh hv (.inr ⟨_,rfl⟩)
  have hd2 : (pre ++ J (w :: v :: r)).drop (pre.length + w.length) = 32 :: J (v :: r) := by
   rw [← List.drop_drop,List.drop_left,hJ,List.drop_left]
  have hd3 : (pre ++ J (w :: v :: r)).drop (pre.length + w.length + 1) = J (v :: r) := by
   rw [← List.drop_drop,hd2]; rfl
  have hsame : qc3 (pre ++ J (w :: v :: r)) f (pre.length + w.length) = qc3 (pre ++ J (w :: v :: r)) f (pre ++ w ++ [32]).length := by
   have hl2 : (pre ++ w ++ [32]).length = pre.length + w.length + 1 := by simp; omega
   rw [hl2]
   cases f with
   | zero => simp at hf
   | succ f =>
    have hg1 : gapS false ((pre ++ J (w :: v :: r)).drop (pre.length + w.length)) = 1 := by
     rw [hd2]
     show (if qeq ((32 : UInt8).toNat : Nat) = true then 1 + gapS false (J (v :: r)) else _) = 1
     rw [if_pos (by decide),hgv]
    have hg2 : gapS false ((pre ++ J (w :: v :: r)).drop (pre.length + w.length + 1)) = 0 := by rw [hd3,hgv]
    rw [qc3,qc3,hg1,hg2,Nat.add_zero]
  have hwl : w.length ≠ 0 := fun e => hne (List.eq_nil_of_length_eq_zero e)
  refine ⟨atP (pre ++ J (w :: v :: r)) pre.length (tokW w) :: l,e,?_,?_,h3⟩
  ·rw [qc3,hd,hg,Nat.add_zero,if_neg (by rw [hlen]; omega),hd,hx]
   simp only [if_true]
   have ht : (tokW w).text = w := rfl
   rw [ht,hsame,h1]; rfl
  ·simp only [List.map_cons,q2f _ _ _ (qxn w),h2]; rfl
end Go.Ab
namespace Go.Ab
open Go Go.Ab.Tab
theorem qoo {n : Nat} {v v' : AVal} {h : qaa} {d : List Nat} (hd : ∀ x ∈ d,n ≤ x) (hr : refs (strip3 v) = []) (hv : strip3 v = v') : some (CR.ret (qbl n v h d).1 (qbl n v h d).2) = some (CR.ret v' .same) := by
 rw [qaw n v h d hd hr,hv]
theorem token_c (text : Str) (hT : text.length ≤ 65536) (k : Nat) (hk : k < text.length) : C 128 [.ptr 0 0] [.box (qcz text k)] =
 some (.ret (.tuple [.agg (atP text k (lexT (text.drop k)).1).cells,.bool (lexT (text.drop k)).2]) .same) := by
 have c1 : qak C [.box [.str text,.int .i64 k,.int .i64 (plc (text.take k)).1,.int .i64 (plc (text.take k)).2],.box [.int .i64 0,.str [],.int .i64 0,.int .i64 0,.int .i64 0]] 186 [.ptr 0 0] = some (.ret (.str (text.drop k)) .same) :=
  qcx (c := C) (b := 0) (H := [.box (qcz text k),.box noTok.cells]) (rest := []) rfl rfl rfl (rest_c text hT k (by omega)) rfl
 obtain ⟨c,r,hcr⟩ : ∃ c r,text.drop k = c :: r := by
  cases h : text.drop k with
  | nil =>
   have := congrArg List.length h
   rw [List.length_drop] at this; simp at this; omega
  | cons c r => exact ⟨c,r,rfl⟩
 have hl : (c :: r).length ≤ 65536 := by rw [← hcr,List.length_drop]; omega
 rw [hcr] at c1 ⊢
 have i0 : (c :: r)[0]? = some c := rfl
 have d1 := qx9 c.toNat
 have d2 := qx8 c.toNat
 have d3 := qt7 c.toNat
 have hsc : qcz text k = [.str text,.int .i64 k,.int .i64 (plc (text.take k)).1,.int .i64 (plc (text.take k)).2] := rfl
 rw [hsc]
 obtain ⟨q,hq⟩ : ∃ q,q = lexT (c :: r) := ⟨_,rfl⟩
 rw [← hq]
 have hcl : q.1.cells = [.int .i64 q.1.sort,.str q.1.text,.int .i64 q.1.n,.int .i64 q.1.line,.int .i64 q.1.col] := rfl
 have hat : (atP text k q.1).cells = [.int .i64 q.1.sort,.str q.1.text,.int .i64 q.1.n,.int .i64 (plc (text.take k)).1,.int .i64 (plc (text.take k)).2] := rfl
 rw [hat]
 cases hd : qb1 c.toNat
 ·cases hlo : qea c.toNat
  ·cases hu : qdq c.toNat
   ·have e : lexT (c :: r) = qra (c :: r) := by simp only [lexT,hd,hlo,hu]; rfl
    have s1 := sign_c (c :: r) hl
    rw [← e,← hq,hcl] at s1
    rw [C_fn rfl Tryz.func128 rfl (by kernel_rfl) (m := 40) rfl]; simp only [Z3,Nat.reduceAdd,Nat.reduceBEq,Int.reduceBEq,Int.reduceBNe,Int.reduceLT,Int.reduceLE,Tryz.f128,qwx,ty,c1,i0,d1 _,d2 _,d3 _,hd,hlo,hu,s1 _]
    exact qoo (by simp [Eff.dirt]) rfl rfl
   ·have e : lexT (c :: r) = (qog (c :: r),decide ((qdt (c :: r)).length ≤ 24)) := by simp only [lexT,hd,hlo,hu]; rfl
    have s1 : Ret C 196 [.str (c :: r)] (.tuple [.agg (lexT (c :: r)).1.cells,.bool (lexT (c :: r)).2]) := by rw [e]; exact qxh c r (by unfold qbn; rw [hlo,hu]; rfl) hl
    rw [← hq,hcl] at s1
    rw [C_fn rfl Tryz.func128 rfl (by kernel_rfl) (m := 40) rfl]; simp only [Z3,Nat.reduceAdd,Nat.reduceBEq,Int.reduceBEq,Int.reduceBNe,Int.reduceLT,Int.reduceLE,Tryz.f128,qwx,ty,c1,i0,d1 _,d2 _,d3 _,hd,hlo,hu,s1 _]
    exact qoo (by simp [Eff.dirt]) rfl rfl
  ·have e : lexT (c :: r) = (qog (c :: r),decide ((qdt (c :: r)).length ≤ 24)) := by simp only [lexT,hd,hlo]; rfl
   have s1 : Ret C 196 [.str (c :: r)] (.tuple [.agg (lexT (c :: r)).1.cells,.bool (lexT (c :: r)).2]) := by rw [e]; exact qxh c r (by unfold qbn; rw [hlo]; rfl) hl
   rw [← hq,hcl] at s1
   rw [C_fn rfl Tryz.func128 rfl (by kernel_rfl) (m := 40) rfl]; simp only [Z3,Nat.reduceAdd,Nat.reduceBEq,Int.reduceBEq,Int.reduceBNe,Int.reduceLT,Int.reduceLE,Tryz.f128,qwx,ty,c1,i0,d1 _,d2 _,hd,hlo,s1 _]
   exact qoo (by simp [Eff.dirt]) rfl rfl
 ·have e : lexT (c :: r) = (numT (c :: r),qq9 (c :: r)) := by simp only [lexT,hd]; rfl
  have s1 : Ret C 193 [.str (c :: r)] (.tuple [.agg (lexT (c :: r)).1.cells,.bool (lexT (c :: r)).2]) := by rw [e]; exact number_c c r hd hl
  rw [← hq,hcl] at s1
  rw [C_fn rfl Tryz.func128 rfl (by kernel_rfl) (m := 40) rfl]; simp only [Z3,Nat.reduceAdd,Nat.reduceBEq,Int.reduceBEq,Int.reduceBNe,Int.reduceLT,Int.reduceLE,Tryz.f128,qwx,ty,c1,i0,d1 _,hd,s1 _]
  exact qoo (by simp [Eff.dirt]) rfl rfl
theorem lex_len {s : Str} (h : (lexT s).2 = true) : 1 ≤ (lexT s).1.text.length ∧ (lexT s).1.text.length ≤ s.length := by
 cases s with
 | nil => cases h
 | cons c r =>
  cases hd : qb1 c.toNat
  ·cases hl : (qea c.toNat || qdq c.toNat)
   ·have e : lexT (c :: r) = qra (c :: r) := by simp only [lexT,hd,hl]; rfl
    rw [e] at h ⊢
    unfold qra at h ⊢
    split at h
    ·rename_i x hx
     have h1 := List.find?_some hx
     have h2 := List.mem_of_find?_eq_some hx
     unfold preB at h1
     simp only [Bool.and_eq_true,decide_eq_true_eq] at h1
     have : ∀ x ∈ signL',1 ≤ x.length := by decide
     exact ⟨this x h2,h1.1⟩
    ·cases h
   ·have e : lexT (c :: r) = (qog (c :: r),decide ((qdt (c :: r)).length ≤ 24)) := by simp only [lexT,hd,hl]; rfl
    rw [e]
    have hin : qbn c.toNat = true := by unfold qbn; rw [hl]; rfl
    show 1 ≤ (qdt (c :: r)).length ∧ (qdt (c :: r)).length ≤ _
    rw [qs1]
    refine ⟨?_,qgp _ _⟩
    simp only [qa5,hin,if_true]; omega
  ·have e : lexT (c :: r) = (numT (c :: r),qq9 (c :: r)) := by simp only [lexT,hd]; rfl
   rw [e]
   show 1 ≤ (numD (c :: r)).length ∧ (numD (c :: r)).length ≤ _
   rw [qvp]
   refine ⟨?_,qgp _ _⟩
   simp only [qa5,hd,if_true]; omega
theorem gapS_le (b : Bool) (s : Str) : gapS b s ≤ s.length := by
 induction s generalizing b with
 | nil => cases b <;> exact Nat.le_refl _
 | cons c r ih =>
  have h1 := ih true
  have h2 := ih false
  cases b
  ·simp only [gapS,List.length_cons]
   split
   ·omega
   ·split <;> omega
  ·simp only [gapS,List.length_cons]
   split <;> omega
theorem scan_fuel (text : Str) : ∀ (f g k : Nat),text.length + 1 ≤ f + k → text.length + 1 ≤ g + k → k ≤ text.length → qc3 text f k = qc3 text g k := by
 intro f
 induction f with
 | zero => intro g k h1 _ h3; omega
 | succ f ih =>
  intro g k h1 h2 h3
  cases g with
  | zero => omega
  | succ g =>
   have hg := gapS_le false (text.drop k)
   rw [List.length_drop] at hg
   rw [qc3,qc3]
   by_cases he : k + gapS false (text.drop k) = text.length
   ·rw [if_pos he,if_pos he]
   ·rw [if_neg he,if_neg he]
    by_cases hx : (lexT (text.drop (k + gapS false (text.drop k)))).2 = true
    ·obtain ⟨l1,l2⟩ := lex_len hx
     rw [List.length_drop] at l2
     rw [if_pos hx,if_pos hx,ih g _ (by omega) (by omega) (by omega)]
    ·rw [if_neg hx,if_neg hx]
end Go.Ab
namespace Go.Ab
open Go Go.Ab.Tab
def qyk (text : Str) : Nat → PFault := fun k => ⟨2,(plc (text.take k)).1,(plc (text.take k)).2⟩
def qop (text : Str) : AVal :=
 if 65536 < text.length then .tuple [.slice [] .free,.agg (PFault.cells ⟨9,0,0⟩)]
 else match qc3 text (text.length + 1) 0 with
  | (some l,_) => .tuple [.slice (l.map PTok.cells) .free,.agg (PFault.cells ⟨0,0,0⟩)]
  | (none,k) => .tuple [.slice [] .free,.agg (qyk text k).cells]
def qmd (text : Str) (acc : List PTok) (k : Nat) : Option (List PTok) × Nat := match qc3 text (text.length + 1) k with
 | (some l,_) => (some (acc ++ l),0)
 | (none,p) => (none,p)
theorem tok5 (l : List PTok) : ∀ c ∈ l.map PTok.cells,c.length = 5 := by
 intro c hc
 obtain ⟨t,_,rfl⟩ := List.mem_map.1 hc
 rfl
theorem q2g {h : qaa} {v : AVal} {es : List (List AVal)} {T : TypeId} (g : Grow h v es T) {b : Nat} {x y : List AVal} (hb : h[b]? = some (.box x)) : Grow (h.set b (.box y)) v es T := by
 rcases g with g | ⟨t,hv,ht⟩
 ·exact .inl g
 ·refine .inr ⟨t,hv,?_⟩
  have hne : b ≠ t := fun e => by rw [e,ht] at hb; cases hb
  rw [List.getElem?_set_ne hne]; exact ht
theorem scan_c (text : Str) (hT : text.length ≤ 65536) : Ret C 73 [.str text] (qop text) := by
 have hv : refs (qop text) = [] := by
  unfold qop; split
  ·rfl
  ·split <;> rfl
 refine Ret.mk rfl hv ?_
 have h1 : decide ((65536 : Int) < (text.length : Int)) = false := decide_eq_false (by omega)
 have hl0 : text.length ≤ qac := by unfold qac; omega
 have hs0 : [AVal.str text,.int .i64 0,.int .i64 1,.int .i64 1] = qcz text 0 := by unfold qcz; rw [List.take_zero]; rfl
 rw [C_fn rfl Tryz.func73 rfl (by kernel_rfl) (m := 61) rfl]; simp only [Z3,Nat.reduceAdd,Nat.reduceBEq,Int.reduceBEq,Int.reduceBNe,Int.reduceLT,Int.reduceLE,Tryz.f73,fx_73,ty,hl0,h1]
 rw [hs0]
 generalize hb : qan PP cmp0 C lpC _ = f; generalize hl : lpC f _ = r
 obtain ⟨ex,s',rfl,h2⟩ := qcv (α := Nat × List PTok × AVal) hl [2,6,7,15,16,17,18,19,20,21,22,23,24,25,26,27,28,29,30,31,32,33,34,35,36,37,38,39,40,41,42,43,44,45,46,47,48,49,50,51,52,53,54,55,56,57,58,59,60,61] (fun a => [(5,a.2.2)]) (fun a h => h[0]? = some (.box (PFault.cells ⟨0,0,0⟩)) ∧ h[1]? = some (.box (qcz text a.1)) ∧ Grow h a.2.2 (a.2.1.map PTok.cells) 84 ∧ a.1 ≤ text.length ∧ a.2.1.length ≤ a.1) (fun a => text.length - a.1) (fun a => qmd text a.2.1 a.1)
  (fun ts r ex s => ex = .ret ∧ ∃ es tk fl,s.tmps[2]? = some (.slice es tk) ∧ s.tmps[3]? = some (.ptr 0 0) ∧ s.heap[0]? = some (.box (PFault.cells fl)) ∧ es = (match r.1 with | some l => l.map PTok.cells | none => []) ∧ fl = (match r.1 with | some _ => ⟨0,0,0⟩ | none => qyk text r.2)) (0,[],.slice [] .full) ⟨rfl,rfl,.inl ⟨rfl,rfl⟩,Nat.zero_le _,Nat.le_refl _⟩ (by simp only [AtT,ats,Int.natCast_zero]) (by
   rintro ⟨k,acc,v⟩ j h d ⟨q0,q1,hg,hk,hacc⟩
   clear hl; subst hb
   simp only at q0 q1 hg hk hacc ⊢
   obtain ⟨E1,hE1,hh1⟩ := qds qaj (b := 1) (H := h) (rest := []) rfl q1 rfl rfl (blanks_c text hT k hk) rfl
   obtain ⟨k1,hk1⟩ : ∃ k1,k1 = k + gapS false (text.drop k) := ⟨_,rfl⟩
   rw [← hk1] at hh1
   have hk1l : k1 ≤ text.length := by have := gapS_le false (text.drop k); rw [List.length_drop] at this; omega
   have l1 := (List.getElem?_eq_some_iff.1 q1).1
   obtain ⟨g1,hg1⟩ : ∃ g1,g1 = h.set 1 (.box (qcz text k1)) := ⟨_,rfl⟩
   rw [← hg1] at hh1
   have p0 : g1[0]? = some (.box (PFault.cells ⟨0,0,0⟩)) := by rw [hg1,List.getElem?_set_ne (by decide)]; exact q0
   have p1 : g1[1]? = some (.box (qcz text k1)) := by rw [hg1,List.getElem?_set_self l1]
   have p1' : g1[1]? = some (.box [.str text,.int .i64 k1,.int .i64 (plc (text.take k1)).1,.int .i64 (plc (text.take k1)).2]) := p1
   have gg1 := q2g (y := qcz text k1) hg q1
   rw [← hg1] at gg1
   have hlen : decide (1 < g1.length) = true := decide_eq_true (List.getElem?_eq_some_iff.1 p1).1
   have hlen0 : decide (0 < g1.length) = true := decide_eq_true (List.getElem?_eq_some_iff.1 p0).1
   by_cases he : k1 = text.length
   ·have he' : ((k1 : Int) == (text.length : Int)) = true := by rw [he]; exact beq_self_eq_true _
    obtain ⟨v1,E2,ha1,hg2,hB2⟩ := q1k qle (fs := [[.int .i64 6,.str [],.int .i64 0,.int .i64 (plc (text.take k1)).1,.int .i64 (plc (text.take k1)).2]]) gg1 (by simp; unfold qac; omega) (tok5 acc) (by intro c hc; simp only [List.mem_cons,List.not_mem_nil,or_false] at hc; subst hc; rfl) (by simp)
    have r0 := hB2 _ _ p0
    have hden : qmd text acc k = (some (acc ++ [atP text k1 endT]),0) := by
     unfold qmd
     rw [qc3,← hk1,if_pos he]
    obtain ⟨tk,hv1⟩ : ∃ tk,v1 = .slice (acc.map PTok.cells ++ [[.int .i64 6,.str [],.int .i64 0,.int .i64 (plc (text.take k1)).1,.int .i64 (plc (text.take k1)).2]]) tk := by
     rcases hg2 with ⟨h1,_⟩ | ⟨t,h1,_⟩
     ·simp at h1
     ·exact ⟨_,h1⟩
    have z0 : ∀ (H : qaa) (x y : List AVal),H[0]? = some (.box x) → (H.set 0 (.box y))[0]? = some (.box y) := fun H x y h => List.getElem?_set_self (List.getElem?_eq_some_iff.1 h).1
    simp only [Z3,Nat.reduceAdd,Nat.reduceBEq,Int.reduceBEq,Int.reduceBNe,Int.reduceLT,Int.reduceLE,effs,fx_73,ty,hE1,hh1,p1',hl0,he',hlen,hlen0,ha1,r0,hden]
    refine .inr ⟨_,_,rfl,by simp,rfl,_,tk,⟨0,0,0⟩,by rw [hv1]; rfl,rfl,z0 _ _ _ r0,?_,rfl⟩
    simp only [List.map_append]; rfl
   ·have he' : ((k1 : Int) == (text.length : Int)) = false := by simp; omega
    obtain ⟨q,hq⟩ : ∃ q,q = lexT (text.drop k1) := ⟨_,rfl⟩
    have tkc := qcx (c := C) (b := 1) (H := g1) (rest := []) rfl p1 rfl (token_c text hT k1 (by omega)) rfl
    rw [← hq] at tkc
    have hat : (atP text k1 q.1).cells = [.int .i64 q.1.sort,.str q.1.text,.int .i64 q.1.n,.int .i64 (plc (text.take k1)).1,.int .i64 (plc (text.take k1)).2] := rfl
    rw [hat] at tkc
    obtain ⟨tc,htc⟩ : ∃ tc,tc = [AVal.int .i64 q.1.sort,.str q.1.text,.int .i64 q.1.n,.int .i64 (plc (text.take k1)).1,.int .i64 (plc (text.take k1)).2] := ⟨_,rfl⟩
    obtain ⟨G,hG⟩ : ∃ G,G = g1 ++ [Blk.box [AVal.int .i64 q.1.sort,.str q.1.text,.int .i64 q.1.n,.int .i64 (plc (text.take k1)).1,.int .i64 (plc (text.take k1)).2]] := ⟨_,rfl⟩
    have G0 : G[0]? = some (.box (PFault.cells ⟨0,0,0⟩)) := by rw [hG]; exact Boxes.app _ _ _ _ p0
    have G1 : G[1]? = some (.box [.str text,.int .i64 k1,.int .i64 (plc (text.take k1)).1,.int .i64 (plc (text.take k1)).2]) := by rw [hG]; exact Boxes.app _ _ _ _ p1'
    have Gt : G[g1.length]? = some (.box [AVal.int .i64 q.1.sort,.str q.1.text,.int .i64 q.1.n,.int .i64 (plc (text.take k1)).1,.int .i64 (plc (text.take k1)).2]) := by rw [hG]; simp
    have Gl : G.length = g1.length + 1 := by rw [hG]; simp
    have gG := gg1.app [Blk.box [AVal.int .i64 q.1.sort,.str q.1.text,.int .i64 q.1.n,.int .i64 (plc (text.take k1)).1,.int .i64 (plc (text.take k1)).2]]
    rw [← hG] at gG
    cases hok : q.2
    ·have hden : qmd text acc k = (none,k1) := by
      unfold qmd
      rw [qc3,← hk1,if_neg he,← hq,hok,if_neg (by decide)]
     have z0 : ∀ (H : qaa) (x y : List AVal),H[0]? = some (.box x) → (H.set 0 (.box y))[0]? = some (.box y) := fun H x y h => List.getElem?_set_self (List.getElem?_eq_some_iff.1 h).1
     simp only [Z3,Nat.reduceAdd,Nat.reduceBEq,Int.reduceBEq,Int.reduceBNe,Int.reduceLT,Int.reduceLE,effs,fx_73,ty,hE1,hh1,p1',hl0,he',tkc,hok,← hG,G0,G1,Gl,hlen,hlen0,hden]
     refine .inr ⟨_,_,rfl,by simp,rfl,[],.full,qyk text k1,rfl,rfl,z0 _ _ _ G0,rfl,rfl⟩
    ·have hsz := lex_len (s := text.drop k1) (by rw [← hq]; exact hok)
     rw [← hq,List.length_drop] at hsz
     obtain ⟨v1,E2,ha1,hg2,hB2⟩ := q1k qle (fs := [[AVal.int .i64 q.1.sort,.str q.1.text,.int .i64 q.1.n,.int .i64 (plc (text.take k1)).1,.int .i64 (plc (text.take k1)).2]]) gG (by simp; unfold qac; omega) (tok5 acc) (by intro c hc; simp only [List.mem_cons,List.not_mem_nil,or_false] at hc; subst hc; rfl) (by simp)
     have r0 := hB2 _ _ G0
     have r1 := hB2 _ _ G1
     have rt := hB2 _ _ Gt
     obtain ⟨E3,hE3,hh3⟩ := qds qaj (b := 1) (H := E2.of G) (rest := [.int .i64 q.1.text.length]) rfl r1 rfl rfl (skip_c text hT k1 q.1.text.length (by omega)) rfl
     have htl : q.1.text.length ≤ qac := by unfold qac; omega
     have hden : qmd text acc k = qmd text (acc ++ [atP text k1 q.1]) (k1 + q.1.text.length) := by
      unfold qmd
      rw [qc3,← hk1,if_neg he,← hq,hok,if_pos rfl,scan_fuel text text.length (text.length + 1) (k1 + q.1.text.length) (by omega) (by omega) (by omega)]
      cases hs : qc3 text (text.length + 1) (k1 + q.1.text.length) with
      | mk o p => cases o <;> simp
     simp only [Z3,Nat.reduceAdd,Nat.reduceBEq,Int.reduceBEq,Int.reduceBNe,Int.reduceLT,Int.reduceLE,effs,fx_73,ty,hE1,hh1,p1',hl0,he',tkc,hok,← hG,G0,G1,Gl,Gt,hlen,hlen0,ha1,rt,htl,hE3,hh3]
     refine .inl ⟨(k1 + q.1.text.length,acc ++ [atP text k1 q.1],v1),_,rfl,⟨?_,?_,?_,by simp only []; omega,by simp only [List.length_append,List.length_cons,List.length_nil]; omega⟩,by simp only [AtT,ats,Int.natCast_zero],by simp only []; omega,hden.symm⟩
     ·show ((E2.of G).set 1 _)[0]? = _
      rw [List.getElem?_set_ne (by decide)]; exact r0
     ·show ((E2.of G).set 1 _)[1]? = _
      exact List.getElem?_set_self (List.getElem?_eq_some_iff.1 r1).1
     ·have hm : (acc ++ [atP text k1 q.1]).map PTok.cells = acc.map PTok.cells ++ [[AVal.int .i64 q.1.sort,.str q.1.text,.int .i64 q.1.n,.int .i64 (plc (text.take k1)).1,.int .i64 (plc (text.take k1)).2]] := by rw [List.map_append]; rfl
      show Grow ((E2.of G).set 1 _) v1 ((acc ++ [atP text k1 q.1]).map PTok.cells) _
      rw [hm]
      exact q2g hg2 r1)
 obtain ⟨rfl,es,tk,fl,t2,t3,q0,rfl,rfl⟩ := h2
 clear hl
 simp only [Z3,Nat.reduceAdd,Nat.reduceBEq,Int.reduceBEq,Int.reduceBNe,Int.reduceLT,Int.reduceLE,effs,fx_73,ty,t2,t3,q0]
 rw [qdw _ _ _ rfl,qdx _ _ _ rfl]
 unfold qop qmd
 rw [if_neg (by omega)]
 cases hs : qc3 text (text.length + 1) 0 with
 | mk o p => cases o <;> rfl
end Go.Ab
namespace Go.Ab
open Go Go.Ab.Tab
def qis : List AVal := [.int .i64 0,.int .i64 0,.int .i64 0]
theorem qxp : Ret C 75 [.nili] (.agg qis) := by
 refine Ret.mk rfl rfl ?_
 rw [C_fn rfl Tryz.func75 rfl (by kernel_rfl) (m := 17) rfl]; simp only [Z3,Nat.reduceAdd,Nat.reduceBEq,Int.reduceBEq,Int.reduceBNe,Int.reduceLT,Int.reduceLE,Tryz.f75,fx_75]
 exact qfi (by simp [Eff.dirt]) rfl rfl
theorem readP_c (text : Str) (hT : text.length ≤ 65536) {l ts' : List PTok} {k : Nat} {p : PProg} (hs : qc3 text (text.length + 1) 0 = (some l,k)) (g : qbg C 37 [.ptr 0 0] [.box (pbox l 0)] (.agg p.cells) [.box (pbox ts' 0)]) :
 fnF PP cmp0 C lpC 36 [.str text,.func 37 [] []] [] = some (.ret (.tuple [.agg p.cells,.agg qis]) .same) := by
 have hsc := scan_c text hT
 have hv : qop text = .tuple [.slice (l.map PTok.cells) .free,.agg (PFault.cells ⟨0,0,0⟩)] := by unfold qop; rw [if_neg (by omega),hs]
 rw [hv] at hsc
 have hf0 : PFault.cells ⟨0,0,0⟩ = [.int .i64 0,.int .i64 0,.int .i64 0] := rfl
 rw [hf0] at hsc
 obtain ⟨E,hE,hh⟩ := qds (c := C) (v := .agg p.cells) (x := pbox l 0) (y := pbox ts' 0) qaj (b := 2) (H := [.box [.slice [] .full,.slice [] .full],.box [.int .i64 0,.int .i64 0,.int .i64 0],.box (pbox l 0)]) (rest := []) rfl rfl (qab _ _) (qab _ _) g (by simp only [refs]; exact p.norefs)
 have hh2 : E.of [.box [.slice [] .full,.slice [] .full],.box [.int .i64 0,.int .i64 0,.int .i64 0],.box (pbox l 0)] = [.box [.slice [] .full,.slice [] .full],.box [.int .i64 0,.int .i64 0,.int .i64 0],.box (pbox ts' 0)] := hh
 have hE : qak C [.box [.slice [] .full,.slice [] .full],.box [.int .i64 0,.int .i64 0,.int .i64 0],.box [.slice (l.map PTok.cells) .free,.int .i64 0]] 37 [.ptr 2 0] = some (.ret (.agg p.cells) E) := hE
 have hh2 : E.of [.box [.slice [] .full,.slice [] .full],.box [.int .i64 0,.int .i64 0,.int .i64 0],.box [.slice (l.map PTok.cells) .free,.int .i64 0]] = [.box [.slice [] .full,.slice [] .full],.box [.int .i64 0,.int .i64 0,.int .i64 0],.box (pbox ts' 0)] := hh2
 have sp : ∀ (x0 x1 : AVal),qav [x0,x1] 0 p.cells = some p.cells := fun _ _ => qc1 (by rw [p.len]; rfl)
 apply fnF_go Tryz.func36 rfl (m := 22) rfl
 ·apply qjx (by kernel_rfl) (by kernel_rfl)
  ·simp only [Z3,Nat.reduceAdd,Nat.reduceBEq,Int.reduceBEq,Int.reduceBNe,Int.reduceLT,Int.reduceLE,Tryz.f36,fx_36]; rfl
  apply qjx (by kernel_rfl) (by kernel_rfl)
  ·simp only [Z3,Nat.reduceAdd,Nat.reduceBEq,Int.reduceBEq,Int.reduceBNe,Int.reduceLT,Int.reduceLE,fx_36,hsc _]; rfl
  apply qjx (by kernel_rfl) (by kernel_rfl)
  ·simp only [Z3,Nat.reduceAdd,Nat.reduceBEq,Int.reduceBEq,Int.reduceBNe,Int.reduceLT,Int.reduceLE,fx_36]; rfl
  apply q1v (by kernel_rfl) rfl
  ·simp only [Z3,Nat.reduceAdd,Nat.reduceBEq,Int.reduceBEq,Int.reduceBNe,Int.reduceLT,Int.reduceLE,effs,fx_36,hE,hh2,sp,p.ones,p.len]
   rfl
  ·rfl
  ·rfl
 ·apply runF_of Tryz.func74 rfl (by rfl) (by kernel_rfl) (by kernel_rfl) (m := 7) rfl
  ·simp only [Z3,Nat.reduceAdd,Nat.reduceBEq,Int.reduceBEq,Int.reduceBNe,Int.reduceLT,Int.reduceLE,fx_74,qxp _]; rfl
  ·simp only [Z3,Nat.reduceAdd,Nat.reduceBEq,Int.reduceBEq,Int.reduceBNe,Int.reduceLT,Int.reduceLE,fx_74]; rfl
 ·unfold endF
  rw [show resA PP _ _ = some [.agg p.cells,.agg qis] from ?_]
  ·simp only [List.length_nil]
   rw [qk7 _ _ _ (by simp only [qcd,strip3,strip2,List.map_cons,List.map_nil,p.strip,refs,qad,p.norefs]; rfl)]
   simp only [qcd,strip3,strip2,List.map_cons,List.map_nil,p.strip]
   rfl
  ·simp only [Z3,Nat.reduceAdd,Nat.reduceBEq,Int.reduceBEq,Int.reduceBNe,Int.reduceLT,Int.reduceLE,Tryz.f36,fx_36,p.len,p.take]; rfl
theorem pexprF_c {R : Rd} (hR : HypE R) {ts ts' : List PTok} {e : PExpr} (hT : TsOk ts) (h : R 0 1 ts = .ok e ts') (h6 : qe5 ts' = 6) : qbg C 49 [.ptr 0 0] [.box (pbox ts 0)] (.agg e.cells) [.box (pbox ts' 0)] := by
 obtain ⟨hT',g⟩ := qfp hR hT h
 obtain ⟨t,r,rfl⟩ := hT'.ne
 obtain ⟨E,e1,e2⟩ := g.m rfl
 have d6 : (t.sort != 6) = false := by have h6 : t.sort = 6 := h6; rw [h6]; rfl
 refine qa1 rfl Tryz.func49 rfl (by kernel_rfl) (m := 12) rfl ?_; simp only [Z3,Nat.reduceAdd,Nat.reduceBEq,Int.reduceBEq,Int.reduceBNe,Int.reduceLT,Int.reduceLE,Tryz.f49,fx_49,effs,e1,e2,qgz,d6]
 exact qed (ts := t :: r) (d := 0) (.inl rfl) rfl rfl (qhu e) rfl rfl
theorem readE_c (text : Str) (hT : text.length ≤ 65536) {l ts' : List PTok} {k : Nat} {p : PExpr} (hs : qc3 text (text.length + 1) 0 = (some l,k)) (g : qbg C 49 [.ptr 0 0] [.box (pbox l 0)] (.agg p.cells) [.box (pbox ts' 0)]) :
 fnF PP cmp0 C lpC 48 [.str text,.func 49 [] []] [] = some (.ret (.tuple [.agg p.cells,.agg qis]) .same) := by
 have hsc := scan_c text hT
 have hv : qop text = .tuple [.slice (l.map PTok.cells) .free,.agg (PFault.cells ⟨0,0,0⟩)] := by unfold qop; rw [if_neg (by omega),hs]
 rw [hv] at hsc
 have hf0 : PFault.cells ⟨0,0,0⟩ = [.int .i64 0,.int .i64 0,.int .i64 0] := rfl
 rw [hf0] at hsc
 obtain ⟨E,hE,hh⟩ := qds (c := C) (v := .agg p.cells) (x := pbox l 0) (y := pbox ts' 0) qaj (b := 2) (H := [.box [.int .i64 0,.str [],.int .i64 0,.slice [] .full,.slice [] .full],.box [.int .i64 0,.int .i64 0,.int .i64 0],.box (pbox l 0)]) (rest := []) rfl rfl (qab _ _) (qab _ _) g (by simp only [refs]; exact p.norefs)
 have hh2 : E.of [.box [.int .i64 0,.str [],.int .i64 0,.slice [] .full,.slice [] .full],.box [.int .i64 0,.int .i64 0,.int .i64 0],.box (pbox l 0)] = [.box [.int .i64 0,.str [],.int .i64 0,.slice [] .full,.slice [] .full],.box [.int .i64 0,.int .i64 0,.int .i64 0],.box (pbox ts' 0)] := hh
 have hE : qak C [.box [.int .i64 0,.str [],.int .i64 0,.slice [] .full,.slice [] .full],.box [.int .i64 0,.int .i64 0,.int .i64 0],.box [.slice (l.map PTok.cells) .free,.int .i64 0]] 49 [.ptr 2 0] = some (.ret (.agg p.cells) E) := hE
 have hh2 : E.of [.box [.int .i64 0,.str [],.int .i64 0,.slice [] .full,.slice [] .full],.box [.int .i64 0,.int .i64 0,.int .i64 0],.box [.slice (l.map PTok.cells) .free,.int .i64 0]] = [.box [.int .i64 0,.str [],.int .i64 0,.slice [] .full,.slice [] .full],.box [.int .i64 0,.int .i64 0,.int .i64 0],.box (pbox ts' 0)] := hh2
 have sp : ∀ (x0 x1 x2 x3 x4 : AVal),qav [x0,x1,x2,x3,x4] 0 p.cells = some p.cells := fun _ _ _ _ _ => qc1 (by rw [p.len]; rfl)
 apply fnF_go Tryz.func48 rfl (m := 22) rfl
 ·apply qjx (by kernel_rfl) (by kernel_rfl)
  ·simp only [Z3,Nat.reduceAdd,Nat.reduceBEq,Int.reduceBEq,Int.reduceBNe,Int.reduceLT,Int.reduceLE,Tryz.f48,fx_48]; rfl
  apply qjx (by kernel_rfl) (by kernel_rfl)
  ·simp only [Z3,Nat.reduceAdd,Nat.reduceBEq,Int.reduceBEq,Int.reduceBNe,Int.reduceLT,Int.reduceLE,fx_48,hsc _]; rfl
  apply qjx (by kernel_rfl) (by kernel_rfl)
  ·simp only [Z3,Nat.reduceAdd,Nat.reduceBEq,Int.reduceBEq,Int.reduceBNe,Int.reduceLT,Int.reduceLE,fx_48]; rfl
  apply q1v (by kernel_rfl) rfl
  ·simp only [Z3,Nat.reduceAdd,Nat.reduceBEq,Int.reduceBEq,Int.reduceBNe,Int.reduceLT,Int.reduceLE,effs,fx_48,hE,hh2,sp,p.ones,p.len]
   rfl
  ·rfl
  ·rfl
 ·apply runF_of Tryz.func98 rfl (by rfl) (by kernel_rfl) (by kernel_rfl) (m := 7) rfl
  ·simp only [Z3,Nat.reduceAdd,Nat.reduceBEq,Int.reduceBEq,Int.reduceBNe,Int.reduceLT,Int.reduceLE,fx_98,qxp _]; rfl
  ·simp only [Z3,Nat.reduceAdd,Nat.reduceBEq,Int.reduceBEq,Int.reduceBNe,Int.reduceLT,Int.reduceLE,fx_98]; rfl
 ·unfold endF
  rw [show resA PP _ _ = some [.agg p.cells,.agg qis] from ?_]
  ·simp only [List.length_nil]
   rw [qk7 _ _ _ (by simp only [qcd,strip3,strip2,List.map_cons,List.map_nil,p.strip,refs,qad,p.norefs]; rfl)]
   simp only [qcd,strip3,strip2,List.map_cons,List.map_nil,p.strip]
   rfl
  ·simp only [Z3,Nat.reduceAdd,Nat.reduceBEq,Int.reduceBEq,Int.reduceBNe,Int.reduceLT,Int.reduceLE,Tryz.f48,fx_48,p.len,p.take]; rfl
end Go.Ab
namespace Go.Ab
open Go Go.Ab.Tab
theorem D_read (f : FuncId) (h : ext1 f = some (fnF PP cmp0 C lpC f)) (a : List AVal) (H : qaa) : D f a H = fnF PP cmp0 C lpC f a H := by unfold D; rw [qtc h]
theorem callA_up {f : FuncId} {args : List AVal} {h : qaa} {r : CR} (e : qak C h f args = some r) : qak D h f args = some r := q0p (fun _ _ _ _ e => up e) e
theorem Ret.up {f : FuncId} {args : List AVal} {v : AVal} (h : Ret C f args v) : Ret D f args v := fun H => callA_up (h H)
theorem readP_d (text : Str) (hT : text.length ≤ 65536) {l ts' : List PTok} {k : Nat} {p : PProg} (hs : qc3 text (text.length + 1) 0 = (some l,k)) (g : qbg C 37 [.ptr 0 0] [.box (pbox l 0)] (.agg p.cells) [.box (pbox ts' 0)]) :
 Ret D 36 [.str text,.func 37 [] []] (.tuple [.agg p.cells,.agg qis]) :=
 Ret.mk rfl (by simp only [refs,qad]; rw [p.norefs]; rfl) (by rw [D_read _ rfl]; exact readP_c text hT hs g)
theorem readE_d (text : Str) (hT : text.length ≤ 65536) {l ts' : List PTok} {k : Nat} {p : PExpr} (hs : qc3 text (text.length + 1) 0 = (some l,k)) (g : qbg C 49 [.ptr 0 0] [.box (pbox l 0)] (.agg p.cells) [.box (pbox ts' 0)]) :
 Ret D 48 [.str text,.func 49 [] []] (.tuple [.agg p.cells,.agg qis]) :=
 Ret.mk rfl (by simp only [refs,qad]; rw [p.norefs]; rfl) (by rw [D_read _ rfl]; exact readE_c text hT hs g)
theorem qzu (text : Str) (hT : text.length ≤ 65536) {l ts' : List PTok} {k n m : Nat} {p : PProg} (hs : qc3 text (text.length + 1) 0 = (some l,k)) (hl : TsOk l) (hp : qgy (pE n) m m l = .ok p ts') (hr : qfw false p = 0) (sm : p.Small) (rg : p.Rng) :
 Ret D 16 [.str text] (.tuple [.agg p.cells,.agg qis]) := by
 have g := readP_d text hT hs (prog_c (hypE' n) (qpw n) hl hp)
 unfold qis at g ⊢
 have rc := (right_c false p sm rg).up
 rw [hr] at rc
 have sp : ∀ (x0 x1 : AVal),qav [x0,x1] 0 p.cells = some p.cells := fun _ _ => qc1 (by rw [p.len]; rfl)
 refine Ret.mk rfl (by simp only [refs,qad]; rw [p.norefs]; rfl) ?_
 rw [D_fn rfl Tryz.func16 rfl (by kernel_rfl) (m := 25) rfl]; simp only [Z3,Nat.reduceAdd,Nat.reduceBEq,Int.reduceBEq,Int.reduceBNe,Int.reduceLT,Int.reduceLE,Tryz.f16,fx_16,effs,g _,sp,p.ones,p.len,p.take,p.strip,rc _]
 try simp only [qcd,List.length_nil]
 rw [qk7 _ _ _ (by simp only [strip3,strip2,List.map_cons,List.map_nil,p.strip,refs,qad,p.norefs]; rfl)]
 simp only [strip3,strip2,List.map_cons,List.map_nil,p.strip]
 rfl
theorem pexpr_ok (text : Str) (hT : text.length ≤ 65536) {l ts' : List PTok} {k n : Nat} {e : PExpr} (hs : qc3 text (text.length + 1) 0 = (some l,k)) (hl : TsOk l) (hp : pE n 0 1 l = .ok e ts') (h6 : qe5 ts' = 6) :
 Ret D 19 [.str text] (.tuple [.agg e.cells,.agg qis]) := by
 have g := readE_d text hT hs (pexprF_c (hypE' n) hl hp h6)
 unfold qis at g ⊢
 have sp : ∀ (x0 x1 x2 x3 x4 : AVal),qav [x0,x1,x2,x3,x4] 0 e.cells = some e.cells := fun _ _ _ _ _ => qc1 (by rw [e.len]; rfl)
 refine Ret.mk rfl (by simp only [refs,qad]; rw [e.norefs]; rfl) ?_
 rw [D_fn rfl Tryz.func19 rfl (by kernel_rfl) (m := 7) rfl]; simp only [Z3,Nat.reduceAdd,Nat.reduceBEq,Int.reduceBEq,Int.reduceBNe,Int.reduceLT,Int.reduceLE,Tryz.f19,fx_19,effs,g _,sp,e.ones,e.len,e.take]
 try simp only [qcd,List.length_nil]
 rw [qk7 _ _ _ (by simp only [strip3,strip2,List.map_cons,List.map_nil,e.strip,refs,qad,e.norefs]; rfl)]
 simp only [strip3,strip2,List.map_cons,List.map_nil,e.strip]
 rfl
end Go.Ab
