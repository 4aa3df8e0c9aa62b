/- The parser gives up: programs. -/
import Derived.Test.YtngklkmeknmloaaGreatDoorAbPf7
import Derived.Test.YtngklkmeknmloaaGreatDoorAbPsLen
import Derived.Test.YtngklkmeknmloaaGreatDoorAbPsY
set_option linter.unusedSimpArgs false
set_option linter.unusedVariables false
set_option maxRecDepth 100000
set_option maxHeartbeats 4000000
open Go.Proofs
open List renaming length_nil→wa,length_cons→wb,length_append→wc,not_mem_nil→wd,length_map→we,map_append→wf,mem_cons→wg,mem_map→wh,getElem?_cons_succ→wi,getElem?_cons_zero→wj,tail_cons→wk,singleton_append→wv,append_assoc→ww
open Bool renaming not_false→wm,and_true→wo,eq_false_iff→wq,or_true→wt
open Nat renaming le_refl→wu
namespace Go.Ab
open Go Go.Ab.Tab
theorem want2_p (s1 s2:Str) (n1:s1≠[]) (n2:s2≠[]) {ts ts':List PTok} (d:Nat) {e:Int} {β:Type} {k:List PTok→PR β} (hT:TsOk ts) (h:qbe s1 ts (fun ts=>qbe s2 ts k)= .bad e ts'):
 Pans C 78 [.ptr 0 0,.slice [[.str s1],[.str s2]] .full] [.box (pbox ts d)] (qa9 e ts')∨∃t1 t2 r,ts=t1::t2::r∧hasS s1 (t1::t2::r)=true∧hasS s2 (t2::r)=true∧TsOk r∧k r= .bad e ts':=by
 have d1:decide ((0:Int)<((2:Nat):Int))=true:=rfl
 have d2:decide ((1:Int)<((2:Nat):Int))=true:=rfl
 have g0:([[AVal.str s1],[AVal.str s2]]:List (List AVal))[0]? =some [.str s1]:=rfl
 have g1:([[AVal.str s1],[AVal.str s2]]:List (List AVal))[1]? =some [.str s2]:=rfl
 have w1:qc1 .i64 (0+1)=1:=rfl
 obtain⟨t,r,rfl,⟨x1,rfl,rfl⟩|⟨x1,hT1,h⟩⟩:=qa8 hT h
 ·obtain⟨E,e1⟩:=metP (qti 3 t r d) (.inl rfl) (qaa _ _) rfl
  have ta:=qev s1 n1 t r d x1
  refine .inl ?_
  refine qao rfl Tryz.func78 rfl (by kernel_rfl) (m:=17) rfl (qaf _ _) ?_;simp only[Z3,Nat.reduceAdd,Nat.reduceBEq,Int.reduceBEq,Int.reduceBNe,Int.reduceLT,Int.reduceLE,Tryz.f78,effs,pans,qig,ta,e1]
  rw[qh1]
  simp only[Z3,Nat.reduceAdd,Nat.reduceBEq,Int.reduceBEq,Int.reduceBNe,Int.reduceLT,Int.reduceLE,effs,pans,qig,ta,e1,d1,g0]
  exact qah
 obtain⟨E0,u1,u2⟩:=qda s1 t r d x1
 obtain⟨t2,r2,rfl,⟨x2,rfl,rfl⟩|⟨x2,hT2,h⟩⟩:=qa8 hT1 h
 ·obtain⟨E,e1⟩:=metP (qti 3 t2 r2 d) (.inl rfl) (qaa _ _) rfl
  have ta:=qev s2 n2 t2 r2 d x2
  refine .inl ?_
  refine qao rfl Tryz.func78 rfl (by kernel_rfl) (m:=17) rfl (qaf _ _) ?_;simp only[Z3,Nat.reduceAdd,Nat.reduceBEq,Int.reduceBEq,Int.reduceBNe,Int.reduceLT,Int.reduceLE,Tryz.f78,effs,pans,qig,u1,u2]
  rw[qh1]
  simp only[Z3,Nat.reduceAdd,Nat.reduceBEq,Int.reduceBEq,Int.reduceBNe,Int.reduceLT,Int.reduceLE,effs,pans,qig,u1,u2,d1,g0,w1]
  rw[qh1]
  simp only[Z3,Nat.reduceAdd,Nat.reduceBEq,Int.reduceBEq,Int.reduceBNe,Int.reduceLT,Int.reduceLE,effs,pans,qig,ta,e1,d2,g1]
  exact qah
 ·exact .inr ⟨t,t2,r2,rfl,x1,x2,hT2,h⟩
theorem item_p0 {R:Rd} (hR:HypE R) (hB:BadE R) {m:Nat} {ts ts':List PTok} {e:Int} (hT:TsOk ts) (hb:qdi ts=true) (h:pEq m R ts= .bad e ts'):
 Pans C 136 [.ptr 0 0] [.box (pbox ts 0)] (qa9 e ts'):=by
 obtain⟨t,r,rfl⟩:=hT.ne
 obtain⟨E,e1⟩:=metP (peq_p hR hB hT h) (.inl rfl) (qaa _ _) (qap _ _)
 have hbg:=qlk t r 0
 rw[hb]at hbg
 refine qao rfl Tryz.func136 rfl (by kernel_rfl) (m:=33) rfl (qaf _ _) ?_;simp only[Z3,Nat.reduceAdd,Nat.reduceBEq,Int.reduceBEq,Int.reduceBNe,Int.reduceLT,Int.reduceLE,Tryz.f136,effs,pans,qfo,hbg,e1]
 exact qah
theorem item_p1 {t t1:PTok} {r r1:List PTok} (hT:TsOk (t::r)) (hb:qdi (t::r)=false) (hh:hasS [97,117,116,111,109,97,116,111,110] (t::r)=true) (hc:r=t1::r1) (h0:hasS [115,116,97,116,101] (t1::r1)=false):
 Pans C 136 [.ptr 0 0] [.box (pbox (t::r) 0)] (qk7 3 t1):=by
 have hbg:=qlk t r 0
 rw[hb]at hbg
 obtain⟨E,e1,e2⟩:=qda [97,117,116,111,109,97,116,111,110] t r 0 hh
 subst hc
 obtain⟨E2,z1⟩:=metP (qb8 [115,116,97,116,101] (by decide) t1 r1 0 h0) (.inl rfl) (qaa _ _) rfl
 refine qao rfl Tryz.func136 rfl (by kernel_rfl) (m:=33) rfl rfl ?_;simp only[Z3,Nat.reduceAdd,Nat.reduceBEq,Int.reduceBEq,Int.reduceBNe,Int.reduceLT,Int.reduceLE,Tryz.f136,effs,pans,qfo,hbg,e1,e2,z1]
 exact qah
theorem item_p2 {R:Rd} (hR:HypE R) (hB:BadE R) (hLen:LenR R) {m n:Nat} {t t1:PTok} {r r1 ts':List PTok} {e:Int} (hT1:TsOk r1) (hb:qdi (t::r)=false) (hh:hasS [97,117,116,111,109,97,116,111,110] (t::r)=true) (hc:r=t1::r1) (h0:hasS [115,116,97,116,101] (t1::r1)=true) (h1:qcg R m n r1= .bad e ts'):
 Pans C 136 [.ptr 0 0] [.box (pbox (t::r) 0)] (qa9 e ts'):=by
 have hbg:=qlk t r 0
 rw[hb]at hbg
 obtain⟨E,e1,e2⟩:=qda [97,117,116,111,109,97,116,111,110] t r 0 hh
 subst hc
 obtain⟨E2,b1,b2⟩:=qbr [115,116,97,116,101] t1 r1 0 h0
 cases n with
 |zero=>cases h1
 |succ n=>
 simp only[qcg]at h1
 rcases PR.bind_bad h1 with hs0|⟨s0,ts0,hs0,h1⟩
 ·obtain⟨E3,c1⟩:=metP (state_p hR hB hLen hT1 hs0) (.inl rfl) (qaa _ _) (qap _ _)
  refine qao rfl Tryz.func136 rfl (by kernel_rfl) (m:=33) rfl (qaf _ _) ?_;simp only[Z3,Nat.reduceAdd,Nat.reduceBEq,Int.reduceBEq,Int.reduceBNe,Int.reduceLT,Int.reduceLE,Tryz.f136,effs,pans,qfo,hbg,e1,e2,b1,b2,c1]
  exact qah
 obtain⟨hT0,g0⟩:=qj1 hR hLen hT1 hs0
 obtain⟨E3,c1,c2⟩:=met g0 rfl (qaa _ _) (qaa _ _) (by simp only[refs];exact s0.norefs)
 have hle:=hT0.le
 have h1:hasS [115,116,97,116,101] ts0=true∧qcg R m n ts0.tail= .bad e ts':=by
  split at h1
  ·rename_i q
   rcases PR.bind_bad h1 with h2|⟨_,_,_,h2⟩
   ·exact⟨q,h2⟩
   ·cases h2
  ·cases h1
 refine qao rfl Tryz.func136 rfl (by kernel_rfl) (m:=33) rfl (qaf _ _) ?_;simp only[Z3,Nat.reduceAdd,Nat.reduceBEq,Int.reduceBEq,Int.reduceBNe,Int.reduceLT,Int.reduceLE,Tryz.f136,effs,pans,qfo,hbg,e1,e2,b1,b2,c1,c2,qit]
 generalize hb:qam PP cmp0 C lpC _=f;generalize hl:lpC f _=r
 obtain⟨ex,s',rfl,rfl⟩:=qch (α:=ItSt) hl [21,22,23,24,25,26,27,28,29] (fun _=>[]) (fun a h=>h[0]? =some (.box (pbox a.ts 0))∧h[1]? =some (.box [.slice [] .full,.int .i64 0,.str [],.int .i64 0,.slice [] .full,.slice [] .full,.slice [] .full])∧h[2]? =some (.box [.slice [] .full,.int .i64 0,.str [],.int .i64 0,.slice [] .full,.slice [] .full,a.v])∧Grow2 h a.v (a.acc.map PState.cells) 71∧TsOk a.ts∧a.acc.length+a.ts.length≤65538∧hasS [115,116,97,116,101] a.ts=true∧qcg R m a.n a.ts.tail= .bad e ts') (fun a=>a.n) (fun _=>())
  (fun ts _ ex s=>ex= .pan (qa9 e ts')) ⟨n,[s0],.slice [s0.cells] .full,ts0⟩ ⟨rfl,rfl,rfl,.inl rfl,hT0,by simp only[wb,wa];omega,h1⟩ (by simp only[AtT,ats]) (by
   rintro⟨n,acc,v,ts⟩ j G dd ⟨q0,q1,q2,gv,hTs,hln,hh,hp⟩
   clear hl;subst hb
   simp only at q0 q1 q2 gv hTs hln hh hp ⊢
   obtain⟨tk,hv⟩:=gv.val
   subst hv
   obtain⟨tt,rt,rfl⟩:=hTs.ne
   simp only[wk]at hp
   cases n with
   |zero=>cases hp
   |succ n=>
    obtain⟨_,_,hc,hTr,_,_⟩:=hTs.hasS hh
    cases hc
    simp only[qcg]at hp
    obtain⟨E1,G1,c1,s1⟩:=stp q0 (qem [115,116,97,116,101] tt rt 0 hh) rfl (qaa _ _) (qaa _ _) rfl
    have y1:=s1.box 2 _ (by decide) q2
    have x1:=qfq y1
    have o1:=s1.of
    rcases PR.bind_bad hp with hq1|⟨s,tsq,hq1,k1⟩
    ·obtain⟨E2,c2⟩:=stpP s1.p0 (state_p hR hB hLen hTr hq1) (.inl rfl) (qaa _ _) (qap _ _)
     simp only[Z3,Nat.reduceAdd,Nat.reduceBEq,Int.reduceBEq,Int.reduceBNe,Int.reduceLT,Int.reduceLE,effs,pans,qfo,c1,o1,y1,x1,c2,retp]
     rw[qiq (by kernel_rfl)]
     exact .inr ⟨_,_,rfl,by simp,rfl⟩
    have k1:hasS [115,116,97,116,101] tsq=true∧qcg R m n tsq.tail= .bad e ts':=by
     split at k1
     ·rename_i q
      rcases PR.bind_bad k1 with h2|⟨_,_,_,h2⟩
      ·exact⟨q,h2⟩
      ·cases h2
     ·cases k1
    ·obtain⟨hTq,gq⟩:=qj1 hR hLen hTr hq1
     have hlt:=qo1 hLen hq1
     obtain⟨E2,G2,c2,s2⟩:=stp s1.p0 gq rfl (qaa _ _) (qaa _ _) (by simp only[refs];exact s.norefs)
     have b1:=s1.box 2 _ (by decide) q2
     have b2:=s2.box 2 _ (by decide) b1
     have z2:=s2.box 1 _ (by decide) (s1.box 1 _ (by decide) q1)
     have fr:=s2.free (by decide) b1
     obtain⟨tk2,E3,ha,gr⟩:=grw ql6 6 (fs:=[s.cells]) b2 (s2.grow _ _ _ (s1.grow _ _ _ gv)) (by simp only[we,wb,wa]at hln ⊢;unfold qac;omega) (by intro c hc;obtain⟨x,_,rfl⟩:=wh.1 hc;exact x.len) (by intro c hc;simp only[wg,wd,or_false]at hc;subst hc;exact s.len) (by simp)
     have o1:=s1.of
     have o2:=s2.of
     have o3:=gr.at1
     have d1:=qfq b1
     have d2:decide (G1.length≤G2.length)=true:=decide_eq_true (by rw[s2.len];exact wu _)
     have d3:decide (G1.length≤(E3.of G2).length)=true:=decide_eq_true (by rw[←s2.len];exact gr.len)
     simp only[Z3,Nat.reduceAdd,Nat.reduceBEq,Int.reduceBEq,Int.reduceBNe,Int.reduceLT,Int.reduceLE,effs,qfo,c1,o1,b1,d1,c2,o2,qit,ha,o3,d2,d3]
     rw[qcr]
     ·refine .inl ⟨⟨n,acc++[s],.slice (acc.map PState.cells++[s.cells]) tk2,tsq⟩,_,rfl,⟨gr.box 0 _ (by decide) s2.p0,gr.box 1 _ (by decide) z2,gr.at2,?_,hTq,?_,k1⟩,by simp only[AtT,ats],by simp only[];omega,trivial⟩
      ·rw[wf];exact gr.grow
      ·simp only[wc,wb,wa]at hln hlt ⊢;omega
     ·kernel_rfl
     ·simp only[qaj,qbx,qae,qcp,fr,wm,wt,wo,wi,wj])
 clear hl
 simp only[Z3,Nat.reduceAdd,Nat.reduceBEq,Int.reduceBEq,Int.reduceBNe,Int.reduceLT,Int.reduceLE,effs,pans,qfo]
 exact qah
theorem item_p3 {R:Rd} (hR:HypE R) (hB:BadE R) (hLen:LenR R) {m n:Nat} {t t1 t5:PTok} {r r1 r5:List PTok} {ss:List PState} {ts':List PTok} {e:Int} (hT1:TsOk r1) (hb:qdi (t::r)=false) (hh:hasS [97,117,116,111,109,97,116,111,110] (t::r)=true) (hc:r=t1::r1) (h0:hasS [115,116,97,116,101] (t1::r1)=true) (h1:qcg R m n r1= .ok ss (t5::r5))
 (hw:Pans C 78 [.ptr 0 0,.slice [[.str [101,110,100]],[.str [59]]] .full] [.box (pbox (t5::r5) 0)] (qa9 e ts')):
 Pans C 136 [.ptr 0 0] [.box (pbox (t::r) 0)] (qa9 e ts'):=by
 have hbg:=qlk t r 0
 rw[hb]at hbg
 obtain⟨E,e1,e2⟩:=qda [97,117,116,111,109,97,116,111,110] t r 0 hh
 subst hc
 obtain⟨E2,b1,b2⟩:=qbr [115,116,97,116,101] t1 r1 0 h0
 cases n with
 |zero=>cases h1
 |succ n=>
 simp only[qcg]at h1
 obtain⟨s0,ts0,hs0,h1⟩:=PR.bind_ok h1
 obtain⟨hT0,g0⟩:=qj1 hR hLen hT1 hs0
 obtain⟨E3,c1,c2⟩:=met g0 rfl (qaa _ _) (qaa _ _) (by simp only[refs];exact s0.norefs)
 have hle:=hT0.le
 refine qao rfl Tryz.func136 rfl (by kernel_rfl) (m:=33) rfl (qaf _ _) ?_;simp only[Z3,Nat.reduceAdd,Nat.reduceBEq,Int.reduceBEq,Int.reduceBNe,Int.reduceLT,Int.reduceLE,Tryz.f136,effs,pans,qfo,hbg,e1,e2,b1,b2,c1,c2,qit]
 generalize hb:qam PP cmp0 C lpC _=f;generalize hl:lpC f _=r
 obtain⟨ex,s',rfl,rfl,h2⟩:=qch (α:=ItSt) hl [21,22,23,24,25,26,27,28,29] (fun _=>[]) (fun a h=>h[0]? =some (.box (pbox a.ts 0))∧h[1]? =some (.box [.slice [] .full,.int .i64 0,.str [],.int .i64 0,.slice [] .full,.slice [] .full,.slice [] .full])∧h[2]? =some (.box [.slice [] .full,.int .i64 0,.str [],.int .i64 0,.slice [] .full,.slice [] .full,a.v])∧Grow2 h a.v (a.acc.map PState.cells) 71∧TsOk a.ts∧a.acc.length+a.ts.length≤65538∧(if hasS [115,116,97,116,101] a.ts=true then(qcg R m a.n a.ts.tail).bind fun l2 ts2=> .ok (a.acc++l2) ts2 else .ok a.acc a.ts)= .ok ss (t5::r5)) (fun a=>a.n) (fun _=>())
  (fun ts _ ex s=>ex= .exit 0∧OutT [21,22,23,24,25,26,27,28,29] ts [] (fun h=>h[0]? =some (.box (pbox (t5::r5) 0))∧h[1]? =some (.box [.slice [] .full,.int .i64 0,.str [],.int .i64 0,.slice [] .full,.slice [] .full,.slice [] .full])∧∃tw,h[2]? =some (.box [.slice [] .full,.int .i64 0,.str [],.int .i64 0,.slice [] .full,.slice [] .full,.slice (ss.map PState.cells) tw])) s) ⟨n,[s0],.slice [s0.cells] .full,ts0⟩ ⟨rfl,rfl,rfl,.inl rfl,hT0,by simp only[wb,wa];omega,h1⟩ (by simp only[AtT,ats]) (by
   rintro⟨n,acc,v,ts⟩ j G dd ⟨q0,q1,q2,gv,hTs,hln,hp⟩
   clear hl;subst hb
   simp only at q0 q1 q2 gv hTs hln hp ⊢
   obtain⟨tk,hv⟩:=gv.val
   subst hv
   obtain⟨tt,rt,rfl⟩:=hTs.ne
   cases hh:hasS [115,116,97,116,101] (tt::rt)
   ·rw[hh]at hp
    simp only[Bool.false_eq_true,if_false]at hp
    cases hp
    have cb:=qcf (c:=C) (b:=0) (H:=G) (rest:=[.str [115,116,97,116,101]]) rfl q0 (qaa _ _) (qhx [115,116,97,116,101] (by decide) _ _ 0 hh) rfl
    simp only[Z3,Nat.reduceAdd,Nat.reduceBEq,Int.reduceBEq,Int.reduceBNe,Int.reduceLT,Int.reduceLE,effs,qfo,cb]
    exact .inr ⟨_,_,rfl,by simp,rfl,by simp only[OutT,AtT,ats],q0,q1,tk,q2⟩
   ·rw[hh]at hp
    simp only[if_true,wk]at hp
    cases n with
    |zero=>cases hp
    |succ n=>
     obtain⟨_,_,hc,hTr,_,_⟩:=hTs.hasS hh
     cases hc
     simp only[qcg]at hp
     obtain⟨l2,ts2',hp1,hp2⟩:=PR.bind_ok hp
     obtain⟨s,tsq,hq1,k1⟩:=PR.bind_ok hp1
     obtain⟨hTq,gq⟩:=qj1 hR hLen hTr hq1
     have hlt:=qo1 hLen hq1
     obtain⟨E1,G1,c1,s1⟩:=stp q0 (qem [115,116,97,116,101] tt rt 0 hh) rfl (qaa _ _) (qaa _ _) rfl
     obtain⟨E2,G2,c2,s2⟩:=stp s1.p0 gq rfl (qaa _ _) (qaa _ _) (by simp only[refs];exact s.norefs)
     have b1:=s1.box 2 _ (by decide) q2
     have b2:=s2.box 2 _ (by decide) b1
     have z2:=s2.box 1 _ (by decide) (s1.box 1 _ (by decide) q1)
     have fr:=s2.free (by decide) b1
     obtain⟨tk2,E3,ha,gr⟩:=grw ql6 6 (fs:=[s.cells]) b2 (s2.grow _ _ _ (s1.grow _ _ _ gv)) (by simp only[we,wb,wa]at hln ⊢;unfold qac;omega) (by intro c hc;obtain⟨x,_,rfl⟩:=wh.1 hc;exact x.len) (by intro c hc;simp only[wg,wd,or_false]at hc;subst hc;exact s.len) (by simp)
     have o1:=s1.of
     have o2:=s2.of
     have o3:=gr.at1
     have d1:=qfq b1
     have d2:decide (G1.length≤G2.length)=true:=decide_eq_true (by rw[s2.len];exact wu _)
     have d3:decide (G1.length≤(E3.of G2).length)=true:=decide_eq_true (by rw[←s2.len];exact gr.len)
     simp only[Z3,Nat.reduceAdd,Nat.reduceBEq,Int.reduceBEq,Int.reduceBNe,Int.reduceLT,Int.reduceLE,effs,qfo,c1,o1,b1,d1,c2,o2,qit,ha,o3,d2,d3]
     rw[qcr]
     ·refine .inl ⟨⟨n,acc++[s],.slice (acc.map PState.cells++[s.cells]) tk2,tsq⟩,_,rfl,⟨gr.box 0 _ (by decide) s2.p0,gr.box 1 _ (by decide) z2,gr.at2,?_,hTq,?_,?_⟩,by simp only[AtT,ats],by simp only[];omega,trivial⟩
      ·rw[wf];exact gr.grow
      ·simp only[wc,wb,wa]at hln hlt ⊢;omega
      ·split at k1
       ·rename_i hh3
        rw[if_pos hh3]
        obtain⟨l3,ts3,h3,h2⟩:=PR.bind_ok k1
        cases h2
        cases hp2
        rw[h3]
        simp[PR.bind]
       ·rename_i hh3
        rw[if_neg hh3]
        cases k1
        cases hp2
        rfl
     ·kernel_rfl
     ·simp only[qaj,qbx,qae,qcp,fr,wm,wt,wo,wi,wj])
 obtain⟨j,H,dd,hI,rfl⟩:=h2.elim
 clear hl
 have i0:=hI.1
 obtain⟨E4,d1⟩:=stpP i0 hw (.inl rfl) (qaa _ _) (qap _ _)
 simp only[Z3,Nat.reduceAdd,Nat.reduceBEq,Int.reduceBEq,Int.reduceBNe,Int.reduceLT,Int.reduceLE,effs,pans,qfo,d1]
 exact qah
theorem pitem_p {R:Rd} (hR:HypE R) (hB:BadE R) (hLen:LenR R) {m n:Nat} {ts ts':List PTok} {e:Int} (hT:TsOk ts) (h:qdj R m (n+1) ts= .bad e ts'):
 Pans C 136 [.ptr 0 0] [.box (pbox ts 0)] (qa9 e ts')∨∃x t1,qdj R m n t1= .bad e ts'∧TsOk t1∧t1.length<ts.length∧qbi C 136 [.ptr 0 0] [.box (pbox ts 0)] (.tuple [.agg (PItem.cells x),.bool true]) [.box (pbox t1 0)]:=by
 simp only[qdj]at h
 split at h
 ·rename_i hb
  rcases PR.bind_bad h with h1|⟨q,t1,h1,h2⟩
  ·exact .inl (item_p0 hR hB hT hb h1)
  rcases PR.bind_bad h2 with h3|⟨_,_,_,h3⟩
  ·exact .inr ⟨_,t1,h3,(qrs hR hT h1).1,qp8 hLen h1,item_eq hR hT hb h1⟩
  ·cases h3
 ·rename_i hb
  have hb':qdi ts=false:=wq.2 hb
  split at h
  ·rename_i ha
   obtain⟨t,r,rfl,hTr,_,_⟩:=hT.hasS ha
   rw[wk]at h
   obtain⟨t1,r1,hc,hx⟩:=qa8 hTr h
   rcases hx with⟨x1,rfl,rfl⟩|⟨x1,hT1,k1⟩
   ·exact .inl (item_p1 hT hb' ha hc x1)
   rcases PR.bind_bad k1 with h1|⟨ss,ts1,h1,k2⟩
   ·exact .inl (item_p2 hR hB hLen hT1 hb' ha hc x1 h1)
   have hTs1:=qrt hR hLen _ _ _ _ hT1 h1
   rcases want2_p [101,110,100] [59] (by decide) (by decide) 0 hTs1 k2 with hw|⟨t5,t6,r6,rfl,w2,w3,hT6,k3⟩
   ·obtain⟨t5,r5,rfl⟩:=hTs1.ne
    exact .inl (item_p3 hR hB hLen hT1 hb' ha hc x1 h1 hw)
   rcases PR.bind_bad k3 with h3|⟨_,_,_,h3⟩
   ·subst hc
    obtain⟨hT',g⟩:=qzw hR hLen (n:=m) hT hb' ha x1 h1 w2 w3 rfl
    have hlt:=qru hLen _ _ _ _ h1
    refine .inr ⟨_,_,h3,hT',?_,g⟩
    simp only[wk,wb]at hlt ⊢
    omega
   ·cases h3
  ·cases h
end Go.Ab
namespace Go.Ab
open Go Go.Ab.Tab
theorem pnodeP {R:Rd} (hR:HypE R) (hB:BadE R) (hLen:LenR R) {m:Nat} {ts ts':List PTok} {e:Int} (hT:TsOk ts) (h:qij m R ts= .bad e ts'):
 Pans C 79 [.ptr 0 0] [.box (pbox ts 0)] (qa9 e ts'):=by
 unfold qij at h
 obtain⟨t,r,rfl,⟨hs,rfl,rfl⟩|⟨hs,h⟩⟩:=qd3 hT h
 ·obtain⟨E,u1⟩:=metP (qmo t r 0 hs) (.inl rfl) (qaa _ _) rfl
  refine qao rfl Tryz.func79 rfl (by kernel_rfl) (m:=43) rfl (qaf _ _) ?_;simp only[Z3,simprocAttr,Tryz.f79,effs,pans,qc0,u1]
  exact qah
 have hTr:=hT.tail (by rw[hs];decide)
 obtain⟨t0,r0,rfl⟩:=hTr.ne
 obtain⟨E1,a1,a2⟩:=met (qdy t (t0::r0) 0 hs) rfl (qaa _ _) (qaa _ _) rfl
 by_cases hp:hasS [91] (t0::r0)=true
 ·rw[if_pos hp]at h
  have s0:=qg2 hp
  rcases PR.bind_bad h with h1|⟨fs,ts1,hf,h⟩
  ·obtain⟨E,u1⟩:=metP (qll (by decide) (by decide) (d:=0) hTr h1) (.inl rfl) (qaa _ _) (qap _ _)
   refine qao rfl Tryz.func79 rfl (by kernel_rfl) (m:=43) rfl (qaf _ _) ?_;simp only[Z3,simprocAttr,Tryz.f79,effs,pans,qc0,a1,a2,qbb,s0,u1]
   exact qah
  obtain⟨hF,gf⟩:=qec (d:=0) hTr hf
  obtain⟨E0,z1,z2⟩:=met gf rfl (qaa _ _) (qaa _ _) rfl
  rcases PR.bind_bad h with h1|⟨is,ts2,hi,h⟩
  ·obtain⟨E,u1⟩:=metP (qll (by decide) (by decide) (d:=0) hF h1) (.inl rfl) (qaa _ _) (qap _ _)
   refine qao rfl Tryz.func79 rfl (by kernel_rfl) (m:=43) rfl (qaf _ _) ?_;simp only[Z3,simprocAttr,Tryz.f79,effs,pans,qc0,a1,a2,qbb,s0,z1,z2,u1]
   exact qah
  obtain⟨hI,gi⟩:=qec (d:=0) hF hi
  obtain⟨E2,b1,b2⟩:=met gi rfl (qaa _ _) (qaa _ _) rfl
  obtain⟨t1,r1,rfl,⟨x1,rfl,rfl⟩|⟨w1,hT1,h⟩⟩:=qa8 hI h
  ·obtain⟨E,u1⟩:=metP (qb8 [61] (by decide) t1 r1 0 x1) (.inl rfl) (qaa _ _) rfl
   refine qao rfl Tryz.func79 rfl (by kernel_rfl) (m:=43) rfl (qaf _ _) ?_;simp only[Z3,simprocAttr,Tryz.f79,effs,pans,qc0,a1,a2,qbb,s0,z1,z2,b1,b2,u1]
   exact qah
  obtain⟨E3,c1,c2⟩:=qbr _ t1 r1 0 w1
  rcases PR.bind_bad h with h1|⟨os,ts3,ho,h⟩
  ·obtain⟨E,u1⟩:=metP (qll (by decide) (by decide) (d:=0) hT1 h1) (.inl rfl) (qaa _ _) (qap _ _)
   refine qao rfl Tryz.func79 rfl (by kernel_rfl) (m:=43) rfl (qaf _ _) ?_;simp only[Z3,simprocAttr,Tryz.f79,effs,pans,qc0,a1,a2,qbb,s0,z1,z2,b1,b2,c1,c2,u1]
   exact qah
  obtain⟨hO,go⟩:=qec (d:=0) hT1 ho
  obtain⟨E4,d1,d2⟩:=met go rfl (qaa _ _) (qaa _ _) rfl
  obtain⟨t2,r2,rfl,⟨x2,rfl,rfl⟩|⟨w2,hT2,h⟩⟩:=qa8 hO h
  ·obtain⟨E,u1⟩:=metP (qb8 [119,104,101,114,101] (by decide) t2 r2 0 x2) (.inl rfl) (qaa _ _) rfl
   refine qao rfl Tryz.func79 rfl (by kernel_rfl) (m:=43) rfl (qaf _ _) ?_;simp only[Z3,simprocAttr,Tryz.f79,effs,pans,qc0,a1,a2,qbb,s0,z1,z2,b1,b2,c1,c2,d1,d2,u1]
   exact qah
  obtain⟨E5,e1,e2⟩:=qbr _ t2 r2 0 w2
  have hle:=hT2.le
  rcases PR.bind_bad h with hl4|⟨its,ts4,hl4,h⟩
  ·
   refine qao rfl Tryz.func79 rfl (by kernel_rfl) (m:=43) rfl (qaf _ _) ?_;simp only[Z3,simprocAttr,Tryz.f79,effs,pans,qc0,a1,a2,qbb,s0,z1,z2,b1,b2,c1,c2,d1,d2,e1,e2]
   generalize hb:qam PP cmp0 C lpC _=f;generalize hl:lpC f _=r
   obtain⟨ex,s',rfl,rfl⟩:=qch (α:=NdSt) hl [4,5,27,28,29,30,31,32,33,34,35,36,37,38,39] (fun _=>[]) (fun a h=>h[0]? =some (.box (pbox a.ts 0))∧h[1]? =some (.box [.str [],.slice [] .full,.slice [] .full,.slice [] .full,.slice [] .full])∧h[2]? =some (.box [.str t.text,qag fs,qag is,qag os,a.v])∧Grow2 h a.v (a.acc.map PItem.cells) 65∧TsOk a.ts∧a.acc.length+a.ts.length≤65538∧qdj R m a.n a.ts= .bad e ts') (fun a=>a.n) (fun _=>())
    (fun ts _ ex s=>ex= .pan (qa9 e ts')) ⟨m,[],.slice [] .full,r2⟩ ⟨rfl,rfl,rfl,.inl rfl,hT2,by simp only[wa];omega,hl4⟩ (by simp only[AtT,ats]) (by
     rintro⟨n,acc,v,ts⟩ j G dd ⟨q0,q1,q2,gv,hTs,hln,hp⟩
     clear hl;subst hb
     simp only at q0 q1 q2 gv hTs hln hp ⊢
     obtain⟨tk,hv⟩:=gv.val
     subst hv
     cases n with
     |zero=>cases hp
     |succ n=>
      have sx:∀(x:PItem) (a b c d e f g:AVal),qar [a,b,c,d,e,f,g] 0 x.cells=some x.cells:=fun x _ _ _ _ _ _ _=>qb7 (by rw[x.len];rfl)
      rcases pitem_p hR hB hLen hTs hp with g|⟨x,t1',hp3,hT',hlt,g⟩
      ·obtain⟨E1,c1⟩:=stpP q0 g (.inl rfl) (qaa _ _) (qap _ _)
       simp only[Z3,simprocAttr,effs,pans,qc0,c1]
       exact .inr ⟨_,_,rfl,by simp,rfl⟩
      ·
       obtain⟨E1,G1,c1,s1⟩:=stp q0 g rfl (qaa _ _) (qaa _ _) (by simp only[refs,qad];rw[x.norefs];rfl)
       have o1:=s1.of
       obtain⟨G2,hG2⟩:∃G2,G2=G1++[Blk.box x.cells]:=⟨_,rfl⟩
       have hb3:∀(k:Nat) (cs:List AVal),G1[k]? =some (Blk.box cs)→G2[k]? =some (Blk.box cs):=fun k cs h=>by rw[hG2];exact Boxes.app _ _ _ _ h
       have he3:G2[G1.length]? =some (.box x.cells):=by rw[hG2];simp
       have b2:=hb3 _ _ (s1.box 2 _ (by decide) q2)
       obtain⟨tk2,E3,ha,gr⟩:=grw qi4 4 (fs:=[x.cells]) b2 (hG2▸(s1.grow _ _ _ gv).box [Blk.box x.cells]) (by simp only[we,wb,wa];unfold qac;omega) (by intro c hc;obtain⟨x,_,rfl⟩:=wh.1 hc;exact x.len) (by intro c hc;simp only[wg,wd,or_false]at hc;subst hc;exact x.len) (by simp)
       have o3:=gr.at1
       simp only[Z3,simprocAttr,effs,qc0,c1,o1,sx,PItem.ones,PItem.len,PItem.take,←hG2,b2,he3,qjy,ha,o3]
       refine .inl ⟨⟨n,acc++[x],.slice (acc.map PItem.cells++[x.cells]) tk2,t1'⟩,_,rfl,⟨gr.box 0 _ (by decide) (hb3 _ _ s1.p0),gr.box 1 _ (by decide) (hb3 _ _ (s1.box 1 _ (by decide) q1)),gr.at2,?_,hT',?_,hp3⟩,by simp only[AtT,ats],by simp only[];omega,trivial⟩
       ·rw[wf];exact gr.grow
       ·simp only[wc,wb,wa]at hln ⊢;omega)
   clear hl
   simp only[Z3,simprocAttr,effs,pans,qc0]
   exact qah
  have hT4:=(qmn hR hLen _ _ _ _ hT2 hl4).1
  obtain⟨t3,r3,rfl,⟨x3,rfl,rfl⟩|⟨_,_,h⟩⟩:=qa8 hT4 h
  rotate_left
  ·cases h
  refine qao rfl Tryz.func79 rfl (by kernel_rfl) (m:=43) rfl (qaf _ _) ?_;simp only[Z3,simprocAttr,Tryz.f79,effs,pans,qc0,a1,a2,qbb,s0,z1,z2,b1,b2,c1,c2,d1,d2,e1,e2]
  generalize hb:qam PP cmp0 C lpC _=f;generalize hl:lpC f _=r
  obtain⟨ex,s',rfl,rfl,h2⟩:=qch (α:=NdSt) hl [4,5,27,28,29,30,31,32,33,34,35,36,37,38,39] (fun _=>[]) (fun a h=>h[0]? =some (.box (pbox a.ts 0))∧h[1]? =some (.box [.str [],.slice [] .full,.slice [] .full,.slice [] .full,.slice [] .full])∧h[2]? =some (.box [.str t.text,qag fs,qag is,qag os,a.v])∧Grow2 h a.v (a.acc.map PItem.cells) 65∧TsOk a.ts∧a.acc.length+a.ts.length≤65538∧(qdj R m a.n a.ts).bind (fun l2 ts2=> .ok (a.acc++l2) ts2)= .ok its (t3::r3)) (fun a=>a.n) (fun _=>())
   (fun ts _ ex s=>ex= .exit 0∧OutT [4,5,27,28,29,30,31,32,33,34,35,36,37,38,39] ts [] (fun h=>h[0]? =some (.box (pbox (t3::r3) 0))∧h[1]? =some (.box [.str [],.slice [] .full,.slice [] .full,.slice [] .full,.slice [] .full])∧∃tq,h[2]? =some (.box [.str t.text,qag fs,qag is,qag os,.slice (its.map PItem.cells) tq])) s) ⟨m,[],.slice [] .full,r2⟩ ⟨rfl,rfl,rfl,.inl rfl,hT2,by simp only[wa];omega,by rw[hl4];rfl⟩ (by simp only[AtT,ats]) (by
    rintro⟨n,acc,v,ts⟩ j G dd ⟨q0,q1,q2,gv,hTs,hln,hp⟩
    clear hl;subst hb
    simp only at q0 q1 q2 gv hTs hln hp ⊢
    obtain⟨tk,hv⟩:=gv.val
    subst hv
    cases n with
    |zero=>cases hp
    |succ n=>
     obtain⟨l2,ts2',hp1,hp2⟩:=PR.bind_ok hp
     have sx:∀(x:PItem) (a b c d e f g:AVal),qar [a,b,c,d,e,f,g] 0 x.cells=some x.cells:=fun x _ _ _ _ _ _ _=>qb7 (by rw[x.len];rfl)
     rcases qp9 hR hLen hTs hp1 with⟨rfl,rfl,g⟩|⟨x,l1,t1',rfl,hp3,hT',hlt,g⟩
     ·cases hp2
      obtain⟨E1,G1,c1,s1⟩:=stp q0 g rfl (qaa _ _) (qaa _ _) rfl
      have o1:=s1.of
      simp only[Z3,simprocAttr,effs,qc0,c1,o1,sx,PItem.ones,PItem.len]
      have hb3:∀(k:Nat) (cs:List AVal),G1[k]? =some (Blk.box cs)→(G1++[Blk.box pZero.cells])[k]? =some (Blk.box cs):=fun k cs h=>Boxes.app _ _ _ _ h
      exact .inr ⟨_,_,rfl,by simp,rfl,by simp only[OutT,AtT,ats],hb3 _ _ s1.p0,hb3 _ _ (s1.box 1 _ (by decide) q1),tk,hb3 _ _ (s1.box 2 _ (by decide) q2)⟩
     ·cases hp2
      obtain⟨E1,G1,c1,s1⟩:=stp q0 g rfl (qaa _ _) (qaa _ _) (by simp only[refs,qad];rw[x.norefs];rfl)
      have o1:=s1.of
      obtain⟨G2,hG2⟩:∃G2,G2=G1++[Blk.box x.cells]:=⟨_,rfl⟩
      have hb3:∀(k:Nat) (cs:List AVal),G1[k]? =some (Blk.box cs)→G2[k]? =some (Blk.box cs):=fun k cs h=>by rw[hG2];exact Boxes.app _ _ _ _ h
      have he3:G2[G1.length]? =some (.box x.cells):=by rw[hG2];simp
      have b2:=hb3 _ _ (s1.box 2 _ (by decide) q2)
      obtain⟨tk2,E3,ha,gr⟩:=grw qi4 4 (fs:=[x.cells]) b2 (hG2▸(s1.grow _ _ _ gv).box [Blk.box x.cells]) (by simp only[we,wb,wa];unfold qac;omega) (by intro c hc;obtain⟨x,_,rfl⟩:=wh.1 hc;exact x.len) (by intro c hc;simp only[wg,wd,or_false]at hc;subst hc;exact x.len) (by simp)
      have o3:=gr.at1
      simp only[Z3,simprocAttr,effs,qc0,c1,o1,sx,PItem.ones,PItem.len,PItem.take,←hG2,b2,he3,qjy,ha,o3]
      refine .inl ⟨⟨n,acc++[x],.slice (acc.map PItem.cells++[x.cells]) tk2,t1'⟩,_,rfl,⟨gr.box 0 _ (by decide) (hb3 _ _ s1.p0),gr.box 1 _ (by decide) (hb3 _ _ (s1.box 1 _ (by decide) q1)),gr.at2,?_,hT',?_,?_⟩,by simp only[AtT,ats],by simp only[];omega,trivial⟩
      ·rw[wf];exact gr.grow
      ·simp only[wc,wb,wa]at hln ⊢;omega
      ·simp only[hp3,PR.bind,ww,wv])
  obtain⟨j,H,dd,hI,rfl⟩:=h2.elim
  clear hl
  have i0:=hI.1
  have i1:=hI.2.1
  obtain⟨tw,i2⟩:=hI.2.2
  clear hI h2
  obtain⟨E6,u1⟩:=stpP i0 (qb8 [101,110,100] (by decide) t3 r3 0 x3) (.inl rfl) (qaa _ _) rfl
  simp only[Z3,simprocAttr,effs,pans,qc0,u1]
  exact qah
 ·rw[if_neg hp]at h
  have s0:=qg3 (s:=[91]) (by decide) (wq.2 hp)
  have hF:=hTr
  simp only[PR.bind]at h
  replace h:(qfw m [40] [41] (t0::r0)).bind (fun i ts=>qbe [61] ts fun ts=>(qfw m [40] [41] ts).bind fun u ts=>qbe [119,104,101,114,101] ts fun ts=>(qdj R m m ts).bind fun l ts=>qbe [101,110,100] ts fun ts=> .ok (⟨t.text,[],i,u,l⟩:PNode) ts)= .bad e ts':=h
  rcases PR.bind_bad h with h1|⟨is,ts2,hi,h⟩
  ·obtain⟨E,u1⟩:=metP (qll (by decide) (by decide) (d:=0) hF h1) (.inl rfl) (qaa _ _) (qap _ _)
   refine qao rfl Tryz.func79 rfl (by kernel_rfl) (m:=43) rfl (qaf _ _) ?_;simp only[Z3,simprocAttr,Tryz.f79,effs,pans,qc0,a1,a2,qbb,s0,u1]
   exact qah
  obtain⟨hI,gi⟩:=qec (d:=0) hF hi
  obtain⟨E2,b1,b2⟩:=met gi rfl (qaa _ _) (qaa _ _) rfl
  obtain⟨t1,r1,rfl,⟨x1,rfl,rfl⟩|⟨w1,hT1,h⟩⟩:=qa8 hI h
  ·obtain⟨E,u1⟩:=metP (qb8 [61] (by decide) t1 r1 0 x1) (.inl rfl) (qaa _ _) rfl
   refine qao rfl Tryz.func79 rfl (by kernel_rfl) (m:=43) rfl (qaf _ _) ?_;simp only[Z3,simprocAttr,Tryz.f79,effs,pans,qc0,a1,a2,qbb,s0,b1,b2,u1]
   exact qah
  obtain⟨E3,c1,c2⟩:=qbr _ t1 r1 0 w1
  rcases PR.bind_bad h with h1|⟨os,ts3,ho,h⟩
  ·obtain⟨E,u1⟩:=metP (qll (by decide) (by decide) (d:=0) hT1 h1) (.inl rfl) (qaa _ _) (qap _ _)
   refine qao rfl Tryz.func79 rfl (by kernel_rfl) (m:=43) rfl (qaf _ _) ?_;simp only[Z3,simprocAttr,Tryz.f79,effs,pans,qc0,a1,a2,qbb,s0,b1,b2,c1,c2,u1]
   exact qah
  obtain⟨hO,go⟩:=qec (d:=0) hT1 ho
  obtain⟨E4,d1,d2⟩:=met go rfl (qaa _ _) (qaa _ _) rfl
  obtain⟨t2,r2,rfl,⟨x2,rfl,rfl⟩|⟨w2,hT2,h⟩⟩:=qa8 hO h
  ·obtain⟨E,u1⟩:=metP (qb8 [119,104,101,114,101] (by decide) t2 r2 0 x2) (.inl rfl) (qaa _ _) rfl
   refine qao rfl Tryz.func79 rfl (by kernel_rfl) (m:=43) rfl (qaf _ _) ?_;simp only[Z3,simprocAttr,Tryz.f79,effs,pans,qc0,a1,a2,qbb,s0,b1,b2,c1,c2,d1,d2,u1]
   exact qah
  obtain⟨E5,e1,e2⟩:=qbr _ t2 r2 0 w2
  have hle:=hT2.le
  rcases PR.bind_bad h with hl4|⟨its,ts4,hl4,h⟩
  ·
   refine qao rfl Tryz.func79 rfl (by kernel_rfl) (m:=43) rfl (qaf _ _) ?_;simp only[Z3,simprocAttr,Tryz.f79,effs,pans,qc0,a1,a2,qbb,s0,b1,b2,c1,c2,d1,d2,e1,e2]
   generalize hb:qam PP cmp0 C lpC _=f;generalize hl:lpC f _=r
   obtain⟨ex,s',rfl,rfl⟩:=qch (α:=NdSt) hl [4,5,27,28,29,30,31,32,33,34,35,36,37,38,39] (fun _=>[]) (fun a h=>h[0]? =some (.box (pbox a.ts 0))∧h[1]? =some (.box [.str [],.slice [] .full,.slice [] .full,.slice [] .full,.slice [] .full])∧h[2]? =some (.box [.str t.text,.slice [] .full,qag is,qag os,a.v])∧Grow2 h a.v (a.acc.map PItem.cells) 65∧TsOk a.ts∧a.acc.length+a.ts.length≤65538∧qdj R m a.n a.ts= .bad e ts') (fun a=>a.n) (fun _=>())
    (fun ts _ ex s=>ex= .pan (qa9 e ts')) ⟨m,[],.slice [] .full,r2⟩ ⟨rfl,rfl,rfl,.inl rfl,hT2,by simp only[wa];omega,hl4⟩ (by simp only[AtT,ats]) (by
     rintro⟨n,acc,v,ts⟩ j G dd ⟨q0,q1,q2,gv,hTs,hln,hp⟩
     clear hl;subst hb
     simp only at q0 q1 q2 gv hTs hln hp ⊢
     obtain⟨tk,hv⟩:=gv.val
     subst hv
     cases n with
     |zero=>cases hp
     |succ n=>
      have sx:∀(x:PItem) (a b c d e f g:AVal),qar [a,b,c,d,e,f,g] 0 x.cells=some x.cells:=fun x _ _ _ _ _ _ _=>qb7 (by rw[x.len];rfl)
      rcases pitem_p hR hB hLen hTs hp with g|⟨x,t1',hp3,hT',hlt,g⟩
      ·obtain⟨E1,c1⟩:=stpP q0 g (.inl rfl) (qaa _ _) (qap _ _)
       simp only[Z3,simprocAttr,effs,pans,qc0,c1]
       exact .inr ⟨_,_,rfl,by simp,rfl⟩
      ·
       obtain⟨E1,G1,c1,s1⟩:=stp q0 g rfl (qaa _ _) (qaa _ _) (by simp only[refs,qad];rw[x.norefs];rfl)
       have o1:=s1.of
       obtain⟨G2,hG2⟩:∃G2,G2=G1++[Blk.box x.cells]:=⟨_,rfl⟩
       have hb3:∀(k:Nat) (cs:List AVal),G1[k]? =some (Blk.box cs)→G2[k]? =some (Blk.box cs):=fun k cs h=>by rw[hG2];exact Boxes.app _ _ _ _ h
       have he3:G2[G1.length]? =some (.box x.cells):=by rw[hG2];simp
       have b2:=hb3 _ _ (s1.box 2 _ (by decide) q2)
       obtain⟨tk2,E3,ha,gr⟩:=grw qi4 4 (fs:=[x.cells]) b2 (hG2▸(s1.grow _ _ _ gv).box [Blk.box x.cells]) (by simp only[we,wb,wa];unfold qac;omega) (by intro c hc;obtain⟨x,_,rfl⟩:=wh.1 hc;exact x.len) (by intro c hc;simp only[wg,wd,or_false]at hc;subst hc;exact x.len) (by simp)
       have o3:=gr.at1
       simp only[Z3,simprocAttr,effs,qc0,c1,o1,sx,PItem.ones,PItem.len,PItem.take,←hG2,b2,he3,qjy,ha,o3]
       refine .inl ⟨⟨n,acc++[x],.slice (acc.map PItem.cells++[x.cells]) tk2,t1'⟩,_,rfl,⟨gr.box 0 _ (by decide) (hb3 _ _ s1.p0),gr.box 1 _ (by decide) (hb3 _ _ (s1.box 1 _ (by decide) q1)),gr.at2,?_,hT',?_,hp3⟩,by simp only[AtT,ats],by simp only[];omega,trivial⟩
       ·rw[wf];exact gr.grow
       ·simp only[wc,wb,wa]at hln ⊢;omega)
   clear hl
   simp only[Z3,simprocAttr,effs,pans,qc0]
   exact qah
  have hT4:=(qmn hR hLen _ _ _ _ hT2 hl4).1
  obtain⟨t3,r3,rfl,⟨x3,rfl,rfl⟩|⟨_,_,h⟩⟩:=qa8 hT4 h
  rotate_left
  ·cases h
  refine qao rfl Tryz.func79 rfl (by kernel_rfl) (m:=43) rfl (qaf _ _) ?_;simp only[Z3,simprocAttr,Tryz.f79,effs,pans,qc0,a1,a2,qbb,s0,b1,b2,c1,c2,d1,d2,e1,e2]
  generalize hb:qam PP cmp0 C lpC _=f;generalize hl:lpC f _=r
  obtain⟨ex,s',rfl,rfl,h2⟩:=qch (α:=NdSt) hl [4,5,27,28,29,30,31,32,33,34,35,36,37,38,39] (fun _=>[]) (fun a h=>h[0]? =some (.box (pbox a.ts 0))∧h[1]? =some (.box [.str [],.slice [] .full,.slice [] .full,.slice [] .full,.slice [] .full])∧h[2]? =some (.box [.str t.text,.slice [] .full,qag is,qag os,a.v])∧Grow2 h a.v (a.acc.map PItem.cells) 65∧TsOk a.ts∧a.acc.length+a.ts.length≤65538∧(qdj R m a.n a.ts).bind (fun l2 ts2=> .ok (a.acc++l2) ts2)= .ok its (t3::r3)) (fun a=>a.n) (fun _=>())
   (fun ts _ ex s=>ex= .exit 0∧OutT [4,5,27,28,29,30,31,32,33,34,35,36,37,38,39] ts [] (fun h=>h[0]? =some (.box (pbox (t3::r3) 0))∧h[1]? =some (.box [.str [],.slice [] .full,.slice [] .full,.slice [] .full,.slice [] .full])∧∃tq,h[2]? =some (.box [.str t.text,.slice [] .full,qag is,qag os,.slice (its.map PItem.cells) tq])) s) ⟨m,[],.slice [] .full,r2⟩ ⟨rfl,rfl,rfl,.inl rfl,hT2,by simp only[wa];omega,by rw[hl4];rfl⟩ (by simp only[AtT,ats]) (by
    rintro⟨n,acc,v,ts⟩ j G dd ⟨q0,q1,q2,gv,hTs,hln,hp⟩
    clear hl;subst hb
    simp only at q0 q1 q2 gv hTs hln hp ⊢
    obtain⟨tk,hv⟩:=gv.val
    subst hv
    cases n with
    |zero=>cases hp
    |succ n=>
     obtain⟨l2,ts2',hp1,hp2⟩:=PR.bind_ok hp
     have sx:∀(x:PItem) (a b c d e f g:AVal),qar [a,b,c,d,e,f,g] 0 x.cells=some x.cells:=fun x _ _ _ _ _ _ _=>qb7 (by rw[x.len];rfl)
     rcases qp9 hR hLen hTs hp1 with⟨rfl,rfl,g⟩|⟨x,l1,t1',rfl,hp3,hT',hlt,g⟩
     ·cases hp2
      obtain⟨E1,G1,c1,s1⟩:=stp q0 g rfl (qaa _ _) (qaa _ _) rfl
      have o1:=s1.of
      simp only[Z3,simprocAttr,effs,qc0,c1,o1,sx,PItem.ones,PItem.len]
      have hb3:∀(k:Nat) (cs:List AVal),G1[k]? =some (Blk.box cs)→(G1++[Blk.box pZero.cells])[k]? =some (Blk.box cs):=fun k cs h=>Boxes.app _ _ _ _ h
      exact .inr ⟨_,_,rfl,by simp,rfl,by simp only[OutT,AtT,ats],hb3 _ _ s1.p0,hb3 _ _ (s1.box 1 _ (by decide) q1),tk,hb3 _ _ (s1.box 2 _ (by decide) q2)⟩
     ·cases hp2
      obtain⟨E1,G1,c1,s1⟩:=stp q0 g rfl (qaa _ _) (qaa _ _) (by simp only[refs,qad];rw[x.norefs];rfl)
      have o1:=s1.of
      obtain⟨G2,hG2⟩:∃G2,G2=G1++[Blk.box x.cells]:=⟨_,rfl⟩
      have hb3:∀(k:Nat) (cs:List AVal),G1[k]? =some (Blk.box cs)→G2[k]? =some (Blk.box cs):=fun k cs h=>by rw[hG2];exact Boxes.app _ _ _ _ h
      have he3:G2[G1.length]? =some (.box x.cells):=by rw[hG2];simp
      have b2:=hb3 _ _ (s1.box 2 _ (by decide) q2)
      obtain⟨tk2,E3,ha,gr⟩:=grw qi4 4 (fs:=[x.cells]) b2 (hG2▸(s1.grow _ _ _ gv).box [Blk.box x.cells]) (by simp only[we,wb,wa];unfold qac;omega) (by intro c hc;obtain⟨x,_,rfl⟩:=wh.1 hc;exact x.len) (by intro c hc;simp only[wg,wd,or_false]at hc;subst hc;exact x.len) (by simp)
      have o3:=gr.at1
      simp only[Z3,simprocAttr,effs,qc0,c1,o1,sx,PItem.ones,PItem.len,PItem.take,←hG2,b2,he3,qjy,ha,o3]
      refine .inl ⟨⟨n,acc++[x],.slice (acc.map PItem.cells++[x.cells]) tk2,t1'⟩,_,rfl,⟨gr.box 0 _ (by decide) (hb3 _ _ s1.p0),gr.box 1 _ (by decide) (hb3 _ _ (s1.box 1 _ (by decide) q1)),gr.at2,?_,hT',?_,?_⟩,by simp only[AtT,ats],by simp only[];omega,trivial⟩
      ·rw[wf];exact gr.grow
      ·simp only[wc,wb,wa]at hln ⊢;omega
      ·simp only[hp3,PR.bind,ww,wv])
  obtain⟨j,H,dd,hI,rfl⟩:=h2.elim
  clear hl
  have i0:=hI.1
  have i1:=hI.2.1
  obtain⟨tw,i2⟩:=hI.2.2
  clear hI h2
  obtain⟨E6,u1⟩:=stpP i0 (qb8 [101,110,100] (by decide) t3 r3 0 x3) (.inl rfl) (qaa _ _) rfl
  simp only[Z3,simprocAttr,effs,pans,qc0,u1]
  exact qah
end Go.Ab
namespace Go.Ab
open Go Go.Ab.Tab
theorem prog_p {R:Rd} (hR:HypE R) (hB:BadE R) (hLen:LenR R) {m n:Nat} {ts ts':List PTok} {e:Int} (hT:TsOk ts) (h:qcw R m n ts= .bad e ts'):
 Pans C 37 [.ptr 0 0] [.box (pbox ts 0)] (qa9 e ts'):=by
 have hle:=hT.le
 refine qao rfl Tryz.func37 rfl (by kernel_rfl) (m:=27) rfl (qaf _ _) ?_;simp only[Z3,simprocAttr,Tryz.f37,effs,pans,qjq]
 generalize hb:qam PP cmp0 C lpC _=f;generalize hl:lpC f _=r
 obtain⟨ex,s',rfl,rfl⟩:=qch (α:=PgSt) hl [4,5,6,7,8,9,10,11,12,13,14,15,16,17,18,19,20,21,22,23,24,25,26] (fun _=>[]) (fun a h=>h[0]? =some (.box (pbox a.ts 0))∧h[1]? =some (.box [.slice [] .full,.slice [] .full])∧h[2]? =some (.box [a.va,a.vb])∧Grow2 h a.va (a.ea.map PEnum.cells) 67∧Grow2 h a.vb (a.na.map PNode.cells) 60∧TsOk a.ts∧a.ea.length+a.na.length+a.ts.length≤65538∧qcw R m a.n a.ts= .bad e ts') (fun a=>a.n) (fun _=>())
  (fun ts _ ex s=>ex= .pan (qa9 e ts')) ⟨n,[],[],.slice [] .full,.slice [] .full,ts⟩ ⟨rfl,rfl,rfl,.inl rfl,.inl rfl,hT,by simp only[wa];omega,h⟩ (by simp only[AtT,ats]) (by
   rintro⟨n,ea,na,va,vb,ts⟩ j G dd ⟨q0,q1,q2,ga,gb,hTs,hln,hp⟩
   clear hl;subst hb
   simp only at q0 q1 q2 ga gb hTs hln hp ⊢
   obtain⟨ta,hva⟩:=ga.val
   obtain⟨tb,hvb⟩:=gb.val
   subst hva hvb
   obtain⟨tt,rt,rfl⟩:=hTs.ne
   have cn:=qcf (c:=C) (b:=0) (H:=G) (rest:=[]) rfl q0 (qaa _ _) (next_c tt rt 0) (PTok.norefs _)
   have cn2:qai C G 51 [.ptr 0 0]=some (.ret (.agg [.int .i64 tt.sort,.str tt.text,.int .i64 tt.n,.int .i64 tt.line,.int .i64 tt.col]) .same):=cn
   cases n with
   |zero=>cases hp
   |succ n=>
    have hp1:=hp
    simp only[qcw]at hp1
    by_cases h6:tt.sort=6
    ·rw[if_pos (show qc3 (tt::rt)=6 from h6)]at hp1
     cases hp1
    ·have h6':¬qc3 (tt::rt)=6:=h6
     rw[if_neg h6']at hp1
     have d6:(tt.sort !=6)=true:=by simpa using h6
     by_cases hh:hasS [116,121,112,101] (tt::rt)=true
     ·rw[if_pos hh]at hp1
      obtain⟨_,_,hc,hTr,_,_⟩:=hTs.hasS hh
      cases hc
      rw[wk]at hp1
      rcases PR.bind_bad hp1 with h1|⟨x,t1,h1,k1⟩
      ·obtain⟨E1,G1,c1,s1⟩:=stp q0 (qem [116,121,112,101] tt rt 0 hh) rfl (qaa _ _) (qaa _ _) rfl
       have b1:=s1.box 2 _ (by decide) q2
       have d1:=qfq b1
       have o1:=s1.of
       obtain⟨E2,c2⟩:=stpP s1.p0 (enum_p hTr h1) (.inl rfl) (qaa _ _) (qap _ _)
       simp only[Z3,simprocAttr,effs,pans,qjq,cn2,d6,c1,o1,b1,d1,c2,retp]
       rw[qiq (by kernel_rfl)]
       exact .inr ⟨_,_,rfl,by simp,rfl⟩
      rcases PR.bind_bad k1 with h3|⟨_,_,_,h3⟩
      rotate_left
      ·cases h3
      obtain⟨hT1,gx⟩:=enum_c hTr h1
      have hlt:=q2b h1
      obtain⟨E1,G1,c1,s1⟩:=stp q0 (qem [116,121,112,101] tt rt 0 hh) rfl (qaa _ _) (qaa _ _) rfl
      obtain⟨E2,G2,c2,s2⟩:=stp s1.p0 gx rfl (qaa _ _) (qaa _ _) (by simp only[refs];exact x.norefs)
      have b1:=s1.box 2 _ (by decide) q2
      have b2:=s2.box 2 _ (by decide) b1
      have z2:=s2.box 1 _ (by decide) (s1.box 1 _ (by decide) q1)
      have fr:=s2.free (by decide) b1
      obtain⟨tk2,E3,ha,gr⟩:=grw qkq 0 (fs:=[x.cells]) b2 (s2.grow _ _ _ (s1.grow _ _ _ ga)) (by simp only[we,wb,wa]at hln ⊢;unfold qac;omega) (by intro c hc;obtain⟨x,_,rfl⟩:=wh.1 hc;exact x.len) (by intro c hc;simp only[wg,wd,or_false]at hc;subst hc;exact x.len) (by simp)
      have o1:=s1.of
      have o2:=s2.of
      have o3:=gr.at1
      have d1:=qfq b1
      have d2:decide (G1.length≤G2.length)=true:=decide_eq_true (by rw[s2.len];exact wu _)
      have d3:decide (G1.length≤(E3.of G2).length)=true:=decide_eq_true (by rw[←s2.len];exact gr.len)
      simp only[Z3,simprocAttr,effs,qjq,cn2,d6,c1,o1,b1,d1,c2,o2,qvp,ha,o3,d2,d3]
      rw[qcr]
      ·refine .inl ⟨⟨n,ea++[x],na,.slice (ea.map PEnum.cells++[x.cells]) tk2,.slice (na.map PNode.cells) tb,t1⟩,_,rfl,⟨gr.box 0 _ (by decide) s2.p0,gr.box 1 _ (by decide) z2,gr.at2,?_,gr.other _ _ _ (by decide) (s2.grow _ _ _ (s1.grow _ _ _ gb)),hT1,?_,h3⟩,by simp only[AtT,ats],by simp only[];omega,trivial⟩
       ·rw[wf];exact gr.grow
       ·simp only[wc,wb,wa]at hln hlt ⊢;omega
      ·kernel_rfl
      ·simp only[qaj,qbx,qae,qcp,fr,wm,wt,wo,wi,wj]
     ·rw[if_neg hh]at hp1
      have ct:=qcf (c:=C) (b:=0) (H:=G) (rest:=[.str [116,121,112,101]]) rfl q0 (qaa _ _) (qhx [116,121,112,101] (by decide) tt rt 0 (wq.2 hh)) rfl
      obtain⟨_,_,hc,hx⟩:=qa8 hTs hp1
      cases hc
      rcases hx with⟨w1,rfl,rfl⟩|⟨w1,hTr,k0⟩
      ·obtain⟨E1,c1⟩:=stpP q0 (qb8 [110,111,100,101] (by decide) tt rt 0 w1) (.inl rfl) (qaa _ _) rfl
       simp only[Z3,simprocAttr,effs,pans,qjq,cn2,d6,ct,c1]
       exact .inr ⟨_,_,rfl,by simp,rfl⟩
      rcases PR.bind_bad k0 with h1|⟨x,t1,h1,k1⟩
      ·obtain⟨E1,G1,c1,s1⟩:=stp q0 (qhg [110,111,100,101] tt rt 0 w1) rfl (qaa _ _) (qaa _ _) rfl
       have b1:=s1.box 2 _ (by decide) q2
       have d1:=qfq b1
       have o1:=s1.of
       obtain⟨E2,c2⟩:=stpP s1.p0 (pnodeP hR hB hLen hTr h1) (.inl rfl) (qaa _ _) (qap _ _)
       simp only[Z3,simprocAttr,effs,pans,qjq,cn2,d6,ct,c1,o1,b1,d1,c2,retp]
       rw[qiq (by kernel_rfl)]
       exact .inr ⟨_,_,rfl,by simp,rfl⟩
      rcases PR.bind_bad k1 with h3|⟨_,_,_,h3⟩
      rotate_left
      ·cases h3
      obtain⟨hT1,gx⟩:=node_nd hR hLen hTr h1
      have hlt:=q2c hR hLen hTr h1
      obtain⟨E1,G1,c1,s1⟩:=stp q0 (qhg [110,111,100,101] tt rt 0 w1) rfl (qaa _ _) (qaa _ _) rfl
      obtain⟨E2,G2,c2,s2⟩:=stp s1.p0 gx rfl (qaa _ _) (qaa _ _) (by simp only[refs];exact x.norefs)
      have b1:=s1.box 2 _ (by decide) q2
      have b2:=s2.box 2 _ (by decide) b1
      have z2:=s2.box 1 _ (by decide) (s1.box 1 _ (by decide) q1)
      have fr:=s2.free (by decide) b1
      obtain⟨tk2,E3,ha,gr⟩:=grw qkr 1 (fs:=[x.cells]) b2 (s2.grow _ _ _ (s1.grow _ _ _ gb)) (by simp only[we,wb,wa]at hln ⊢;unfold qac;omega) (by intro c hc;obtain⟨x,_,rfl⟩:=wh.1 hc;exact x.len) (by intro c hc;simp only[wg,wd,or_false]at hc;subst hc;exact x.len) (by simp)
      have o1:=s1.of
      have o2:=s2.of
      have o3:=gr.at1
      have d1:=qfq b1
      have d2:decide (G1.length≤G2.length)=true:=decide_eq_true (by rw[s2.len];exact wu _)
      have d3:decide (G1.length≤(E3.of G2).length)=true:=decide_eq_true (by rw[←s2.len];exact gr.len)
      simp only[Z3,simprocAttr,effs,qjq,cn2,d6,ct,c1,o1,b1,d1,c2,o2,qvo,ha,o3,d2,d3]
      rw[qcr]
      ·refine .inl ⟨⟨n,ea,na++[x],.slice (ea.map PEnum.cells) ta,.slice (na.map PNode.cells++[x.cells]) tk2,t1⟩,_,rfl,⟨gr.box 0 _ (by decide) s2.p0,gr.box 1 _ (by decide) z2,gr.at2,gr.other _ _ _ (by decide) (s2.grow _ _ _ (s1.grow _ _ _ ga)),?_,hT1,?_,h3⟩,by simp only[AtT,ats],by simp only[];omega,trivial⟩
       ·rw[wf];exact gr.grow
       ·simp only[wc,wb,wa]at hln hlt ⊢;omega
      ·kernel_rfl
      ·simp only[qaj,qbx,qae,qcp,fr,wm,wt,wo,wi,wj])
 clear hl
 simp only[Z3,simprocAttr,effs,pans,qjq]
 exact qah
end Go.Ab
