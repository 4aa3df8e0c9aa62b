/- What Print tells of a program that may be is read as that program. -/
import Derived.Test.YtngklkmeknmloaaGreatDoorAbSize
import Derived.Test.YtngklkmeknmloaaGreatDoorAbOkB
import Derived.Test.YtngklkmeknmloaaGreatDoorAbShow
import Derived.Test.YtngklkmeknmloaaGreatDoorAbSameR
import Derived.Test.YtngklkmeknmloaaGreatDoorAbPsQv
set_option linter.unusedSimpArgs false
set_option linter.unusedVariables false
set_option maxRecDepth 100000
set_option maxHeartbeats 4000000
open Go.Proofs
namespace Go.Ab
theorem qif {α : Type} (p : α → α → Bool) (h : ∀ a b,p a b = true ↔ a = b) : ∀ l m,qcy p l m = true ↔ l = m
 | [],[] => by simp [qcy]
 | [],_ :: _ => by simp [qcy]
 | _ :: _,[] => by simp [qcy]
 | a :: r,b :: t => by simp [qcy,h a b,qif p h r t]
theorem PEq.same_iff (a b : PEq) : a.same b = true ↔ a = b := by
 cases a; cases b; simp [PEq.same,Go.Ab.same_iff]
theorem PWay.same_iff (a b : PWay) : a.same b = true ↔ a = b := by
 cases a; cases b; simp [PWay.same,Go.Ab.same_iff,and_comm]
theorem PState.same_iff (a b : PState) : a.same b = true ↔ a = b := by
 cases a; cases b; simp [PState.same,qif _ PEq.same_iff,qif _ PWay.same_iff,and_assoc]
theorem PItem.same_iff (a b : PItem) : a.same b = true ↔ a = b := by
 cases a; cases b; simp [PItem.same,PEq.same_iff,qif _ PState.same_iff]
theorem PNode.same_iff (a b : PNode) : a.same b = true ↔ a = b := by
 cases a; cases b; simp [PNode.same,qif _ PItem.same_iff,and_assoc]
theorem PEnum.same_iff (a b : PEnum) : a.same b = true ↔ a = b := by
 cases a; cases b; simp [PEnum.same]
theorem PProg.same_iff (a b : PProg) : a.same b = true ↔ a = b := by
 cases a; cases b; simp [PProg.same,qif _ PEnum.same_iff,qif _ PNode.same_iff]
end Go.Ab
namespace Go.Ab
open Go Go.Ab.Tab
theorem J_ge : ∀ ws : List Str,(∀ w ∈ ws,w ≠ []) → ws.length ≤ (J ws).length
 | [],_ => Nat.le_refl _
 | [w],h => by
  have hw := h w (by simp)
  rw [J_one]
  cases w with
  | nil => exact absurd rfl hw
  | cons c t => simp
 | w :: v :: r,h => by
  have := J_ge (v :: r) (fun x hx => h x (by simp [hx]))
  rw [qxb w _ (by simp)]
  simp only [List.length_append,List.length_cons] at this ⊢
  omega
theorem text_back {p : PProg} (gp : GoodP p) (hne : qdo p ≠ []) (hT : (J (qdo p)).length ≤ 65536) : ∃ l,qc3 (J (qdo p)) ((J (qdo p)).length + 1) 0 = (some l,0) ∧ TsOk l ∧ ∃ N ts',qgy (pE N) N N l = .ok p ts' := by
 have hok := oks_prog gp
 have hge := J_ge (qdo p) (fun w hw => (qyj (hok w hw)).1)
 obtain ⟨l,e,h1,h2,h3⟩ := qxo (qdo p) [] ((J (qdo p)).length + 1) hne hok (by omega)
 have hl : l.length = (qdo p).length := by
  have := congrArg List.length h2
  simpa [toks] using this
 have h6 : e.sort = 6 := by have := congrArg PTok.sort h3; exact this
 refine ⟨l ++ [e],h1,⟨⟨l,e,rfl,h6⟩,by simp only [List.length_append,List.length_cons,List.length_nil]; omega⟩,?_⟩
 obtain ⟨N,hN⟩ := prog_back gp
 have hp := hN N N (Nat.le_refl _) (Nat.le_refl _)
 have hm : (l ++ [e]).map strip = toks (qdo p) ++ [tEnd] := by
  rw [List.map_append,h2]; simp only [List.map_cons,List.map_nil,h3]; rfl
 rw [← hm] at hp
 obtain ⟨ts',h4,_⟩ := (qyn (pE_v N) N N).back hp
 exact ⟨N,ts',h4⟩
theorem pback_c (p : PProg) (hs : p.Small) (hr : p.Rng) (hb : p.bulk ≤ 1048576) : D 8 [.agg p.cells] [] = some (.ret (.bool true) .same) := by
 have hTp := progW_T p
 have m2 : qac = 1099511627776 := rfl
 have a := (print_c p hs hr (by omega)).up
 unfold qs2 at a
 by_cases hz : qfw false p = 0
 ·rw [if_pos hz] at a
  have gp := goodP_of hz hr (by unfold qac; omega)
  have hne := node_ne p hz
  have hJl := J_len (qdo p)
  have hJle : (J (qdo p)).length ≤ qac := by omega
  by_cases hbig : 65536 < (J (qdo p)).length
  ·have hd : decide ((65536 : Int) < ((J (qdo p)).length : Int)) = true := decide_eq_true (by omega)
   rw [D_fn rfl Tryz.func8 rfl (by kernel_rfl) (m := 33) rfl]; simp only [Z3,Nat.reduceAdd,Nat.reduceBEq,Int.reduceBEq,Int.reduceBNe,Int.reduceLT,Int.reduceLE,Tryz.f8,fx_8,qs6 _,a _,hJle,hd,p.len,p.take,p.strip]
  ·have hd : decide ((65536 : Int) < ((J (qdo p)).length : Int)) = false := decide_eq_false (by omega)
   obtain ⟨l,h1,h2,N,ts',h3⟩ := text_back gp hne (by omega)
   have c1 := qzu _ (by omega) h1 h2 h3 hz hs hr
   have c2 := (rsame_c p p hs hs).up
   unfold qis at c1
   have sp : ∀ (x0 x1 : AVal),qav [x0,x1] 0 p.cells = some p.cells := fun _ _ => qc1 (by rw [p.len]; rfl)
   rw [D_fn rfl Tryz.func8 rfl (by kernel_rfl) (m := 33) rfl]; simp only [Z3,Nat.reduceAdd,Nat.reduceBEq,Int.reduceBEq,Int.reduceBNe,Int.reduceLT,Int.reduceLE,Tryz.f8,fx_8,qs6 _,a _,hJle,hd,c1 _,q2i,sp,p.ones,p.len,p.take,p.strip,c2 _]
   rw [(PProg.same_iff p p).2 rfl]
 ·rw [if_neg hz] at a
  have hz' : (qfw false p == 0) = false := by simpa using hz
  rw [D_fn rfl Tryz.func8 rfl (by kernel_rfl) (m := 33) rfl]; simp only [Z3,Nat.reduceAdd,Nat.reduceBEq,Int.reduceBEq,Int.reduceBNe,Int.reduceLT,Int.reduceLE,Tryz.f8,fx_8,qs6 _,a _,bne,hz',p.len,p.take,p.strip]
end Go.Ab
