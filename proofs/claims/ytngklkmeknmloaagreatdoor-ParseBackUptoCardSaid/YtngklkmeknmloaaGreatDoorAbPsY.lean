/- The parser: programs. -/
import Derived.Test.YtngklkmeknmloaaGreatDoorAbPsLen
set_option linter.unusedSimpArgs false
set_option linter.unusedVariables false
set_option maxRecDepth 100000
set_option maxHeartbeats 4000000
open Go.Proofs
namespace Go.Ab
open Go Go.Ab.Tab
theorem pNode_lt {R : Rd} (hR : HypE R) (hLen : LenR R) {m : Nat} {ts ts' : List PTok} {x : PNode} (hT : TsOk ts) (h : qn8 m R ts = .ok x ts') : ts'.length < ts.length := by
 unfold qn8 at h
 obtain ⟨t,r,rfl,hs,k1⟩ := qb0 h
 have hTr := hT.tail (by rw [hs]; decide)
 obtain ⟨fs,ts1,hf,k2⟩ := PR.bind_ok k1
 have hF : TsOk ts1 ∧ ts1.length ≤ r.length := by
  split at hf
  ·exact ⟨(qhh (d := 0) hTr hf).1,qls hf⟩
  ·cases hf; exact ⟨hTr,Nat.le_refl _⟩
 obtain ⟨is,ts2,hi,k3⟩ := PR.bind_ok k2
 have e2 := qls hi
 have hI := (qhh (d := 0) hF.1 hi).1
 obtain ⟨w1,k4⟩ := qa2 k3
 obtain ⟨t1,r1,rfl,hT1,_,_⟩ := hI.hasS w1
 rw [List.tail_cons] at k4
 obtain ⟨os,ts3,ho,k5⟩ := PR.bind_ok k4
 have e3 := qls ho
 have hO := (qhh (d := 0) hT1 ho).1
 obtain ⟨w2,k6⟩ := qa2 k5
 obtain ⟨t2,r2,rfl,hT2,_,_⟩ := hO.hasS w2
 rw [List.tail_cons] at k6
 obtain ⟨its,ts4,hl4,k7⟩ := PR.bind_ok k6
 have e4 := (qsv hR hLen _ _ _ _ hT2 hl4).2
 obtain ⟨r5,k8,e5⟩ := qcr k7
 cases k8
 have := hF.2
 simp only [List.length_cons] at *
 omega
structure PgSt where
 n : Nat
 ea : List PEnum
 na : List PNode
 va : AVal
 vb : AVal
 ts : List PTok
theorem prog_c {R : Rd} (hR : HypE R) (hLen : LenR R) {m n : Nat} {ts ts' : List PTok} {p : PProg} (hT : TsOk ts) (h : qgy R m n ts = .ok p ts') :
 qbg C 37 [.ptr 0 0] [.box (pbox ts 0)] (.agg p.cells) [.box (pbox ts' 0)] := by
 have hle := hT.le
 refine qa1 rfl Tryz.func37 rfl (by kernel_rfl) (m := 27) rfl ?_; simp only [Z3,Nat.reduceAdd,Nat.reduceBEq,Int.reduceBEq,Int.reduceBNe,Int.reduceLT,Int.reduceLE,Tryz.f37,fx_37,effs]
 generalize hb : qan PP cmp0 C lpC _ = f; generalize hl : lpC f _ = r
 obtain ⟨ex,s',rfl,rfl,h2⟩ := qcv (α := PgSt) hl [4,5,6,7,8,9,10,11,12,13,14,15,16,17,18,19,20,21,22,23,24,25,26] (fun _ => []) (fun a h => h[0]? = some (.box (pbox a.ts 0)) ∧ h[1]? = some (.box [.slice [] .full,.slice [] .full]) ∧ h[2]? = some (.box [a.va,a.vb]) ∧ Grow2 h a.va (a.ea.map PEnum.cells) 67 ∧ Grow2 h a.vb (a.na.map PNode.cells) 60 ∧ TsOk a.ts ∧ a.ea.length + a.na.length + a.ts.length ≤ 65538 ∧ (qgy R m a.n a.ts).bind (fun p2 ts2 => .ok ⟨a.ea ++ p2.enums,a.na ++ p2.nodes⟩ ts2) = .ok p ts') (fun a => a.n) (fun _ => ())
  (fun ts _ ex s => ex = .exit 0 ∧ OutT [4,5,6,7,8,9,10,11,12,13,14,15,16,17,18,19,20,21,22,23,24,25,26] ts [] (fun h => h[0]? = some (.box (pbox ts' 0)) ∧ h[1]? = some (.box [.slice [] .full,.slice [] .full]) ∧ ∃ ta tb,h[2]? = some (.box [.slice (p.enums.map PEnum.cells) ta,.slice (p.nodes.map PNode.cells) tb])) s) ⟨n,[],[],.slice [] .full,.slice [] .full,ts⟩ ⟨rfl,rfl,rfl,.inl rfl,.inl rfl,hT,by simp only [List.length_nil]; omega,by rw [h]; rfl⟩ (by simp only [AtT,ats]) (by
   rintro ⟨n,ea,na,va,vb,ts⟩ j G dd ⟨q0,q1,q2,ga,gb,hTs,hln,hp⟩
   clear hl; subst hb
   simp only at q0 q1 q2 ga gb hTs hln hp ⊢
   obtain ⟨ta,hva⟩ := ga.val
   obtain ⟨tb,hvb⟩ := gb.val
   subst hva hvb
   obtain ⟨tt,rt,rfl⟩ := hTs.ne
   have cn := qcx (c := C) (b := 0) (H := G) (rest := []) rfl q0 (qab _ _) (next_c tt rt 0) (PTok.norefs _)
   have cn2 : qak C G 51 [.ptr 0 0] = some (.ret (.agg [.int .i64 tt.sort,.str tt.text,.int .i64 tt.n,.int .i64 tt.line,.int .i64 tt.col]) .same) := cn
   cases n with
   | zero => cases hp
   | succ n =>
    obtain ⟨p2,ts2',hp1,hp2⟩ := PR.bind_ok hp
    simp only [qgy] at hp1
    by_cases h6 : tt.sort = 6
    ·rw [if_pos (show qe5 (tt :: rt) = 6 from h6)] at hp1
     cases hp1
     cases hp2
     have d6 : (tt.sort != 6) = false := by rw [h6]; rfl
     simp only [Z3,Nat.reduceAdd,Nat.reduceBEq,Int.reduceBEq,Int.reduceBNe,Int.reduceLT,Int.reduceLE,effs,fx_37,cn2,d6]
     exact .inr ⟨_,_,rfl,by simp,rfl,by simp only [OutT,AtT,ats],q0,q1,ta,tb,by simpa using q2⟩
    ·have h6' : ¬ qe5 (tt :: rt) = 6 := h6
     rw [if_neg h6'] at hp1
     have d6 : (tt.sort != 6) = true := by simpa using h6
     by_cases hh : hasS [116,121,112,101] (tt :: rt) = true
     ·rw [if_pos hh] at hp1
      obtain ⟨_,_,hc,hTr,_,_⟩ := hTs.hasS hh
      cases hc
      rw [List.tail_cons] at hp1
      obtain ⟨x,t1,h1,k1⟩ := PR.bind_ok hp1
      obtain ⟨p3,t3,h3,k3⟩ := PR.bind_ok k1
      cases k3
      cases hp2
      obtain ⟨hT1,gx⟩ := enum_c hTr h1
      have hlt := pEnum_lt h1
      obtain ⟨E1,G1,c1,s1⟩ := stp q0 (qjm [116,121,112,101] tt rt 0 hh) rfl (qab _ _) (qab _ _) rfl
      obtain ⟨E2,G2,c2,s2⟩ := stp s1.p0 gx rfl (qab _ _) (qab _ _) (by simp only [refs]; exact x.norefs)
      have b1 := s1.box 2 _ (by decide) q2
      have b2 := s2.box 2 _ (by decide) b1
      have z2 := s2.box 1 _ (by decide) (s1.box 1 _ (by decide) q1)
      have fr := s2.free (by decide) b1
      obtain ⟨tk2,E3,ha,gr⟩ := grw qny 0 (fs := [x.cells]) b2 (s2.grow _ _ _ (s1.grow _ _ _ ga)) (by simp only [List.length_map,List.length_cons,List.length_nil] at hln ⊢; unfold qac; omega) (by intro c hc; obtain ⟨x,_,rfl⟩ := List.mem_map.1 hc; exact x.len) (by intro c hc; simp only [List.mem_cons,List.not_mem_nil,or_false] at hc; subst hc; exact x.len) (by simp)
      have o1 := s1.of
      have o2 := s2.of
      have o3 := gr.at1
      have d1 := qpx b1
      have d2 : decide (G1.length ≤ G2.length) = true := decide_eq_true (by rw [s2.len]; exact Nat.le_refl _)
      have d3 : decide (G1.length ≤ (E3.of G2).length) = true := decide_eq_true (by rw [← s2.len]; exact gr.len)
      simp only [Z3,Nat.reduceAdd,Nat.reduceBEq,Int.reduceBEq,Int.reduceBNe,Int.reduceLT,Int.reduceLE,effs,fx_37,cn2,d6,c1,o1,b1,d1,c2,o2,q1i,ha,o3,d2,d3]
      rw [qfv]
      ·refine .inl ⟨⟨n,ea ++ [x],na,.slice (ea.map PEnum.cells ++ [x.cells]) tk2,.slice (na.map PNode.cells) tb,t1⟩,_,rfl,⟨gr.box 0 _ (by decide) s2.p0,gr.box 1 _ (by decide) z2,gr.at2,?_,gr.other _ _ _ (by decide) (s2.grow _ _ _ (s1.grow _ _ _ gb)),hT1,?_,?_⟩,by simp only [AtT,ats],by simp only []; omega,trivial⟩
       ·rw [List.map_append]; exact gr.grow
       ·simp only [List.length_append,List.length_cons,List.length_nil] at hln hlt ⊢; omega
       ·simp only [h3,PR.bind,List.append_assoc,List.singleton_append]
      ·kernel_rfl
      ·simp only [qal,qcf,qae,qei,fr,Bool.not_false,Bool.or_true,Bool.and_true,List.getElem?_cons_succ,List.getElem?_cons_zero]
     ·rw [if_neg hh] at hp1
      have ct := qcx (c := C) (b := 0) (H := G) (rest := [.str [116,121,112,101]]) rfl q0 (qab _ _) (qjl [116,121,112,101] (by decide) tt rt 0 (Bool.eq_false_iff.2 hh)) rfl
      obtain ⟨w1,k0⟩ := qa2 hp1
      obtain ⟨_,_,hc,hTr,_,_⟩ := hTs.hasS w1
      cases hc
      rw [List.tail_cons] at k0
      obtain ⟨x,t1,h1,k1⟩ := PR.bind_ok k0
      obtain ⟨p3,t3,h3,k3⟩ := PR.bind_ok k1
      cases k3
      cases hp2
      obtain ⟨hT1,gx⟩ := node_nd hR hLen hTr h1
      have hlt := pNode_lt hR hLen hTr h1
      obtain ⟨E1,G1,c1,s1⟩ := stp q0 (qlq [110,111,100,101] tt rt 0 w1) rfl (qab _ _) (qab _ _) rfl
      obtain ⟨E2,G2,c2,s2⟩ := stp s1.p0 gx rfl (qab _ _) (qab _ _) (by simp only [refs]; exact x.norefs)
      have b1 := s1.box 2 _ (by decide) q2
      have b2 := s2.box 2 _ (by decide) b1
      have z2 := s2.box 1 _ (by decide) (s1.box 1 _ (by decide) q1)
      have fr := s2.free (by decide) b1
      obtain ⟨tk2,E3,ha,gr⟩ := grw qnz 1 (fs := [x.cells]) b2 (s2.grow _ _ _ (s1.grow _ _ _ gb)) (by simp only [List.length_map,List.length_cons,List.length_nil] at hln ⊢; unfold qac; omega) (by intro c hc; obtain ⟨x,_,rfl⟩ := List.mem_map.1 hc; exact x.len) (by intro c hc; simp only [List.mem_cons,List.not_mem_nil,or_false] at hc; subst hc; exact x.len) (by simp)
      have o1 := s1.of
      have o2 := s2.of
      have o3 := gr.at1
      have d1 := qpx b1
      have d2 : decide (G1.length ≤ G2.length) = true := decide_eq_true (by rw [s2.len]; exact Nat.le_refl _)
      have d3 : decide (G1.length ≤ (E3.of G2).length) = true := decide_eq_true (by rw [← s2.len]; exact gr.len)
      simp only [Z3,Nat.reduceAdd,Nat.reduceBEq,Int.reduceBEq,Int.reduceBNe,Int.reduceLT,Int.reduceLE,effs,fx_37,cn2,d6,ct,c1,o1,b1,d1,c2,o2,q1h,ha,o3,d2,d3]
      rw [qfv]
      ·refine .inl ⟨⟨n,ea,na ++ [x],.slice (ea.map PEnum.cells) ta,.slice (na.map PNode.cells ++ [x.cells]) tk2,t1⟩,_,rfl,⟨gr.box 0 _ (by decide) s2.p0,gr.box 1 _ (by decide) z2,gr.at2,gr.other _ _ _ (by decide) (s2.grow _ _ _ (s1.grow _ _ _ ga)),?_,hT1,?_,?_⟩,by simp only [AtT,ats],by simp only []; omega,trivial⟩
       ·rw [List.map_append]; exact gr.grow
       ·simp only [List.length_append,List.length_cons,List.length_nil] at hln hlt ⊢; omega
       ·simp only [h3,PR.bind,List.append_assoc,List.singleton_append]
      ·kernel_rfl
      ·simp only [qal,qcf,qae,qei,fr,Bool.not_false,Bool.or_true,Bool.and_true,List.getElem?_cons_succ,List.getElem?_cons_zero])
 obtain ⟨j,H,dd,hI,rfl⟩ := h2.elim
 clear hl
 have i0 := hI.1
 have i1 := hI.2.1
 obtain ⟨tw,tv,i2⟩ := hI.2.2
 clear hI h2
 simp only [Z3,Nat.reduceAdd,Nat.reduceBEq,Int.reduceBEq,Int.reduceBNe,Int.reduceLT,Int.reduceLE,effs,fx_37,i1,i2]
 have l1 := (List.getElem?_eq_some_iff.1 i1).1
 have hb0 : ∀ y,(H.set 1 y)[0]? = some (.box (pbox ts' 0)) := fun y => by rw [List.getElem?_set_ne (by decide)]; exact i0
 exact qq6 (T := 26) (k := 2) (b := 1) qj9 qj8 (ts := ts') (d := 0) (.inl rfl) rfl (List.getElem?_set_self l1) rfl rfl rfl (hb0 _) (qoe (hb0 _))
end Go.Ab
