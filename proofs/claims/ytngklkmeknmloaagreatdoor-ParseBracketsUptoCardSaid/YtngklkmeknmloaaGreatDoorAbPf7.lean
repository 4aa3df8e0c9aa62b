/- The parser gives up: programs. -/
import Derived.Test.YtngklkmeknmloaaGreatDoorAbPsY
import Derived.Test.YtngklkmeknmloaaGreatDoorAbPsLen
set_option linter.unusedSimpArgs false
set_option linter.unusedVariables false
set_option maxRecDepth 100000
set_option maxHeartbeats 4000000
open Go.Proofs
open List renaming getElem?_eq_some_iff→wa,take_succ_eq_append_getElem→wc,getElem?_set_ne→wd,tail_cons→we,append_assoc→wg,cons_append→wh,append_nil→wi,nil_append→wj,getElem?_set_self→wk,length_cons→wm,not_mem_nil→wo,length_map→wq,length_nil→wt,map_append→wu,mem_cons→wv,mem_map→ww
open Bool renaming false_eq_true→wb
namespace Go.Ab
open Go Go.Ab.Tab
theorem sampled_p {m:Nat} {R:Rd} (hR:HypE R) (hB:BadE R) (hLen:LenR R) {d:Nat} (hA:HypA m R d) (hX:BadA m R d) {ts ts':List PTok} {e:Int} (hT:TsOk ts) (h:qdl m R d ts= .bad e ts'):
 Pans C 247 [.ptr 0 0] [.box (pbox ts d)] (qb0 e ts'):=by
 unfold qdl at h
 rcases PR.bind_bad h with h0|⟨a,ts1,ha,h⟩
 ·obtain⟨E,e1⟩:=metP (atom_p hR hB hLen hX hT h0) (.inl rfl) (qaa _ _) (qbb _ _)
  refine qbc rfl Tryz.func247 rfl (by kernel_rfl) (m:=38) rfl (qal _ _) ?_;simp only[Z3,simprocAttr,Tryz.f247,effs,pans,qb5,e1]
  exact qaw
 obtain⟨hT1,ga⟩:=atom_c hR hLen hA hT ha
 obtain⟨E,e1,e2⟩:=ga.m rfl
 rw[a.cells_eq,show qaf a.cons= .slice (a.cons.map fun s=>[.str s]) .free from rfl]at e1
 obtain⟨t1,r1,rfl⟩:=hT1.ne
 cases hev:(a.op==14 && hasS [101,118,101,114,121] (t1::r1))
 ·rw[hev]at h
  simp only[wb,if_false]at h
  replace h:qc2 m a (t1::r1)= .bad e ts':=h
  cases k14:(a.op==14)
  ·refine qbc rfl Tryz.func247 rfl (by kernel_rfl) (m:=38) rfl (qal _ _) ?_;simp only[Z3,simprocAttr,Tryz.f247,effs,pans,qb5,e1,e2,k14]
   generalize hb:qam PP cmp0 C lpC _=f;generalize hl:lpC f _=r
   obtain⟨ex,s',rfl,rfl⟩:=qel (α:=WhSt) hl [4,5,20,21,22,23,24,25,26,27,28,29,30,31,32,33,34,35,36,37] (fun _=>[]) (fun a=>[.box (pbox a.ts d),.box qaz,.box (a.left.cellsT a.tk)]) (fun a=>TsOk a.ts∧qc2 a.n a.left a.ts= .bad e ts') (fun a=>a.n) (fun _=>())
    (fun ts _ ex s=>ex= .pan (qb0 e ts')) ⟨m,a,.free,t1::r1⟩ ⟨hT1,h⟩ (At.of [] (by simp only[ats]<;>rfl) (by simp only[wi]<;>first|rfl|(rw[PExpr.cells_eq];rfl))) (by
     rintro⟨n,left,tk,ts⟩ j H dd ⟨hTs,hp⟩
     clear hl;subst hb
     simp only at hTs hp ⊢
     cases n with
     |zero=>cases hp
     |succ n=>
      obtain⟨t,r,rfl⟩:=hTs.ne
      simp only[qc2]at hp
      cases hh:hasS [119,104,101,110] (t::r)
      ·rw[hh]at hp
       simp only[wb,if_false]at hp
       cases hp
      ·rw[hh]at hp
       simp only[if_true]at hp
       obtain⟨_,_,hc,hTr,_,_⟩:=hTs.hasS hh
       cases hc
       simp only[we]at hp
       obtain⟨V1,a1,a2⟩:=qd5 _ t r d hh
       obtain⟨t1,r1,rfl,⟨s1,rfl,rfl⟩|⟨s1,g1⟩⟩:=qf4 hTr hp
       ·obtain⟨E,z1⟩:=metP (con_p t1 r1 d s1) (.inl rfl) (qaa _ _) rfl
        simp only[Z3,simprocAttr,effs,pans,qb5,PExpr.cellsT,qaz,a1,a2,z1,retp]
        exact .inr ⟨_,_,rfl,by simp,rfl⟩
       have hT1:=hTr.tail (by rw[s1];decide)
       obtain⟨V2,b1,b2⟩:=met (qim t1 r1 d s1) rfl (qaa _ _) (qaa _ _) rfl
       obtain⟨t2,r2,rfl,⟨s2,rfl,rfl⟩|⟨w1,hT2,g2⟩⟩:=qcw hT1 g1
       ·obtain⟨E,z1⟩:=metP (qfc [40] (by decide) t2 r2 d s2) (.inl rfl) (qaa _ _) rfl
        simp only[Z3,simprocAttr,effs,pans,qb5,PExpr.cellsT,qaz,a1,a2,b1,b2,z1,retp]
        exact .inr ⟨_,_,rfl,by simp,rfl⟩
       obtain⟨V3,c1,c2⟩:=qce _ t2 r2 d w1
       obtain⟨t3,r3,rfl,⟨s3,rfl,rfl⟩|⟨s3,g3⟩⟩:=qf4 hT2 g2
       ·obtain⟨E,z1⟩:=metP (qsy t3 r3 d s3) (.inl rfl) (qaa _ _) rfl
        simp only[Z3,simprocAttr,effs,pans,qb5,PExpr.cellsT,qaz,a1,a2,b1,b2,c1,c2,z1,retp]
        exact .inr ⟨_,_,rfl,by simp,rfl⟩
       have hT3:=hT2.tail (by rw[s3];decide)
       obtain⟨V4,d1,d2⟩:=met (qen t3 r3 d s3) rfl (qaa _ _) (qaa _ _) rfl
       obtain⟨t4,r4,rfl,⟨s4,rfl,rfl⟩|⟨w2,hT4,g4⟩⟩:=qcw hT3 g3
       ·obtain⟨E,z1⟩:=metP (qfc [41] (by decide) t4 r4 d s4) (.inl rfl) (qaa _ _) rfl
        simp only[Z3,simprocAttr,effs,pans,qb5,PExpr.cellsT,qaz,a1,a2,b1,b2,c1,c2,d1,d2,z1,retp]
        exact .inr ⟨_,_,rfl,by simp,rfl⟩
       obtain⟨V5,f1,f2⟩:=qce _ t4 r4 d w2
       simp only[Z3,simprocAttr,effs,qb5,PExpr.cellsT,qaz,a1,a2,b1,b2,c1,c2,d1,d2,f1,f2]
       exact .inl ⟨⟨n,qgw t3.text t1.text left,.full,r4⟩,_,rfl,⟨hT4,g4⟩,At.of _ (by simp only[ats]<;>rfl) (by simp only[wh,wg,wj];rw[show[AVal.int .i64 left.op,.str left.name,.int .i64 left.n,.slice (left.cons.map fun s=>[.str s]) .free,.slice (left.kids.map PExpr.cells) .free]=left.cells from left.cells_eq.symm];rfl),by simp only[];omega,trivial⟩)
   clear hl
   simp only[Z3,simprocAttr,effs,pans,qb5]
   exact qaw
  ·have k2:hasS [101,118,101,114,121] (t1::r1)=false:=by rw[k14]at hev;simpa using hev
   have c0:=qfe [101,118,101,114,121] (by decide) t1 r1 d k2
   refine qbc rfl Tryz.func247 rfl (by kernel_rfl) (m:=38) rfl (qal _ _) ?_;simp only[Z3,simprocAttr,Tryz.f247,effs,pans,qb5,e1,e2,k14,c0]
   generalize hb:qam PP cmp0 C lpC _=f;generalize hl:lpC f _=r
   obtain⟨ex,s',rfl,rfl⟩:=qel (α:=WhSt) hl [4,5,20,21,22,23,24,25,26,27,28,29,30,31,32,33,34,35,36,37] (fun _=>[]) (fun a=>[.box (pbox a.ts d),.box qaz,.box (a.left.cellsT a.tk)]) (fun a=>TsOk a.ts∧qc2 a.n a.left a.ts= .bad e ts') (fun a=>a.n) (fun _=>())
    (fun ts _ ex s=>ex= .pan (qb0 e ts')) ⟨m,a,.free,t1::r1⟩ ⟨hT1,h⟩ (At.of [] (by simp only[ats]<;>rfl) (by simp only[wi]<;>first|rfl|(rw[PExpr.cells_eq];rfl))) (by
     rintro⟨n,left,tk,ts⟩ j H dd ⟨hTs,hp⟩
     clear hl;subst hb
     simp only at hTs hp ⊢
     cases n with
     |zero=>cases hp
     |succ n=>
      obtain⟨t,r,rfl⟩:=hTs.ne
      simp only[qc2]at hp
      cases hh:hasS [119,104,101,110] (t::r)
      ·rw[hh]at hp
       simp only[wb,if_false]at hp
       cases hp
      ·rw[hh]at hp
       simp only[if_true]at hp
       obtain⟨_,_,hc,hTr,_,_⟩:=hTs.hasS hh
       cases hc
       simp only[we]at hp
       obtain⟨V1,a1,a2⟩:=qd5 _ t r d hh
       obtain⟨t1,r1,rfl,⟨s1,rfl,rfl⟩|⟨s1,g1⟩⟩:=qf4 hTr hp
       ·obtain⟨E,z1⟩:=metP (con_p t1 r1 d s1) (.inl rfl) (qaa _ _) rfl
        simp only[Z3,simprocAttr,effs,pans,qb5,PExpr.cellsT,qaz,a1,a2,z1,retp]
        exact .inr ⟨_,_,rfl,by simp,rfl⟩
       have hT1:=hTr.tail (by rw[s1];decide)
       obtain⟨V2,b1,b2⟩:=met (qim t1 r1 d s1) rfl (qaa _ _) (qaa _ _) rfl
       obtain⟨t2,r2,rfl,⟨s2,rfl,rfl⟩|⟨w1,hT2,g2⟩⟩:=qcw hT1 g1
       ·obtain⟨E,z1⟩:=metP (qfc [40] (by decide) t2 r2 d s2) (.inl rfl) (qaa _ _) rfl
        simp only[Z3,simprocAttr,effs,pans,qb5,PExpr.cellsT,qaz,a1,a2,b1,b2,z1,retp]
        exact .inr ⟨_,_,rfl,by simp,rfl⟩
       obtain⟨V3,c1,c2⟩:=qce _ t2 r2 d w1
       obtain⟨t3,r3,rfl,⟨s3,rfl,rfl⟩|⟨s3,g3⟩⟩:=qf4 hT2 g2
       ·obtain⟨E,z1⟩:=metP (qsy t3 r3 d s3) (.inl rfl) (qaa _ _) rfl
        simp only[Z3,simprocAttr,effs,pans,qb5,PExpr.cellsT,qaz,a1,a2,b1,b2,c1,c2,z1,retp]
        exact .inr ⟨_,_,rfl,by simp,rfl⟩
       have hT3:=hT2.tail (by rw[s3];decide)
       obtain⟨V4,d1,d2⟩:=met (qen t3 r3 d s3) rfl (qaa _ _) (qaa _ _) rfl
       obtain⟨t4,r4,rfl,⟨s4,rfl,rfl⟩|⟨w2,hT4,g4⟩⟩:=qcw hT3 g3
       ·obtain⟨E,z1⟩:=metP (qfc [41] (by decide) t4 r4 d s4) (.inl rfl) (qaa _ _) rfl
        simp only[Z3,simprocAttr,effs,pans,qb5,PExpr.cellsT,qaz,a1,a2,b1,b2,c1,c2,d1,d2,z1,retp]
        exact .inr ⟨_,_,rfl,by simp,rfl⟩
       obtain⟨V5,f1,f2⟩:=qce _ t4 r4 d w2
       simp only[Z3,simprocAttr,effs,qb5,PExpr.cellsT,qaz,a1,a2,b1,b2,c1,c2,d1,d2,f1,f2]
       exact .inl ⟨⟨n,qgw t3.text t1.text left,.full,r4⟩,_,rfl,⟨hT4,g4⟩,At.of _ (by simp only[ats]<;>rfl) (by simp only[wh,wg,wj];rw[show[AVal.int .i64 left.op,.str left.name,.int .i64 left.n,.slice (left.cons.map fun s=>[.str s]) .free,.slice (left.kids.map PExpr.cells) .free]=left.cells from left.cells_eq.symm];rfl),by simp only[];omega,trivial⟩)
   clear hl
   simp only[Z3,simprocAttr,effs,pans,qb5]
   exact qaw
 ·rw[hev]at h
  simp only[if_true,we]at h
  simp only[Bool.and_eq_true]at hev
  obtain⟨_,_,hc,hTr,_,_⟩:=hT1.hasS hev.2
  cases hc
  obtain⟨V,v1,v2⟩:=qd5 _ t1 r1 d hev.2
  have k14:=hev.1
  rcases PR.bind_bad h with h1|⟨b,ts3,hbb,h⟩
  ·rcases PR.bind_bad h1 with hk|⟨_,_,_,hk⟩
   ·obtain⟨K,y1⟩:=metP ((hB _ _ _ _ _ hTr hk).1 rfl) (.inl rfl) (qaa _ _) (qbb _ _)
    refine qbc rfl Tryz.func247 rfl (by kernel_rfl) (m:=38) rfl (qal _ _) ?_;simp only[Z3,simprocAttr,Tryz.f247,effs,pans,qb5,e1,e2,k14,v1,v2,y1,retp]
    rw[qpu (by kernel_rfl)]
    exact qaw
   ·cases hk
  obtain⟨k,ts2,hk,hbb⟩:=PR.bind_ok hbb
  cases hbb
  obtain⟨hT3,gk,_⟩:=hR _ _ _ _ _ hTr hk
  obtain⟨K,y1,y2,y3⟩:=(gk rfl).m3 rfl
  refine qbc rfl Tryz.func247 rfl (by kernel_rfl) (m:=38) rfl (qal _ _) ?_;simp only[Z3,simprocAttr,Tryz.f247,effs,pans,qb5,e1,e2,k14,v1,v2,y1,y2,qe4,qee,qlq _ _ _ _]
  rw[qed]
  ·simp only[Z3,simprocAttr,effs,pans,qb5,y2,qe4,qee,qlq _ _ _ _]
   generalize hb:qam PP cmp0 C lpC _=f;generalize hl:lpC f _=r
   obtain⟨ex,s',rfl,rfl⟩:=qel (α:=WhSt) hl [4,5,20,21,22,23,24,25,26,27,28,29,30,31,32,33,34,35,36,37] (fun _=>[]) (fun a=>[.box (pbox a.ts d),.box qaz,.box (a.left.cellsT a.tk)]) (fun a=>TsOk a.ts∧qc2 a.n a.left a.ts= .bad e ts') (fun a=>a.n) (fun _=>())
    (fun ts _ ex s=>ex= .pan (qb0 e ts')) ⟨m,qe1 a k,.free,ts3⟩ ⟨hT3,h⟩ (At.of [] (by simp only[ats]<;>rfl) (by simp only[wi]<;>first|rfl|(rw[PExpr.cells_eq];rfl))) (by
     rintro⟨n,left,tk,ts⟩ j H dd ⟨hTs,hp⟩
     clear hl;subst hb
     simp only at hTs hp ⊢
     cases n with
     |zero=>cases hp
     |succ n=>
      obtain⟨t,r,rfl⟩:=hTs.ne
      simp only[qc2]at hp
      cases hh:hasS [119,104,101,110] (t::r)
      ·rw[hh]at hp
       simp only[wb,if_false]at hp
       cases hp
      ·rw[hh]at hp
       simp only[if_true]at hp
       obtain⟨_,_,hc,hTr,_,_⟩:=hTs.hasS hh
       cases hc
       simp only[we]at hp
       obtain⟨V1,a1,a2⟩:=qd5 _ t r d hh
       obtain⟨t1,r1,rfl,⟨s1,rfl,rfl⟩|⟨s1,g1⟩⟩:=qf4 hTr hp
       ·obtain⟨E,z1⟩:=metP (con_p t1 r1 d s1) (.inl rfl) (qaa _ _) rfl
        simp only[Z3,simprocAttr,effs,pans,qb5,PExpr.cellsT,qaz,a1,a2,z1,retp]
        exact .inr ⟨_,_,rfl,by simp,rfl⟩
       have hT1:=hTr.tail (by rw[s1];decide)
       obtain⟨V2,b1,b2⟩:=met (qim t1 r1 d s1) rfl (qaa _ _) (qaa _ _) rfl
       obtain⟨t2,r2,rfl,⟨s2,rfl,rfl⟩|⟨w1,hT2,g2⟩⟩:=qcw hT1 g1
       ·obtain⟨E,z1⟩:=metP (qfc [40] (by decide) t2 r2 d s2) (.inl rfl) (qaa _ _) rfl
        simp only[Z3,simprocAttr,effs,pans,qb5,PExpr.cellsT,qaz,a1,a2,b1,b2,z1,retp]
        exact .inr ⟨_,_,rfl,by simp,rfl⟩
       obtain⟨V3,c1,c2⟩:=qce _ t2 r2 d w1
       obtain⟨t3,r3,rfl,⟨s3,rfl,rfl⟩|⟨s3,g3⟩⟩:=qf4 hT2 g2
       ·obtain⟨E,z1⟩:=metP (qsy t3 r3 d s3) (.inl rfl) (qaa _ _) rfl
        simp only[Z3,simprocAttr,effs,pans,qb5,PExpr.cellsT,qaz,a1,a2,b1,b2,c1,c2,z1,retp]
        exact .inr ⟨_,_,rfl,by simp,rfl⟩
       have hT3:=hT2.tail (by rw[s3];decide)
       obtain⟨V4,d1,d2⟩:=met (qen t3 r3 d s3) rfl (qaa _ _) (qaa _ _) rfl
       obtain⟨t4,r4,rfl,⟨s4,rfl,rfl⟩|⟨w2,hT4,g4⟩⟩:=qcw hT3 g3
       ·obtain⟨E,z1⟩:=metP (qfc [41] (by decide) t4 r4 d s4) (.inl rfl) (qaa _ _) rfl
        simp only[Z3,simprocAttr,effs,pans,qb5,PExpr.cellsT,qaz,a1,a2,b1,b2,c1,c2,d1,d2,z1,retp]
        exact .inr ⟨_,_,rfl,by simp,rfl⟩
       obtain⟨V5,f1,f2⟩:=qce _ t4 r4 d w2
       simp only[Z3,simprocAttr,effs,qb5,PExpr.cellsT,qaz,a1,a2,b1,b2,c1,c2,d1,d2,f1,f2]
       exact .inl ⟨⟨n,qgw t3.text t1.text left,.full,r4⟩,_,rfl,⟨hT4,g4⟩,At.of _ (by simp only[ats]<;>rfl) (by simp only[wh,wg,wj];rw[show[AVal.int .i64 left.op,.str left.name,.int .i64 left.n,.slice (left.cons.map fun s=>[.str s]) .free,.slice (left.kids.map PExpr.cells) .free]=left.cells from left.cells_eq.symm];rfl),by simp only[];omega,trivial⟩)
   clear hl
   simp only[Z3,simprocAttr,effs,pans,qb5]
   exact qaw
  ·kernel_rfl
  ·have z2:=y3 [Blk.box qaz,Blk.box (a.cellsT .free)] 2 (by omega) (by simp)
   unfold qaz PExpr.cellsT at z2
   simp only[qak,qcd,qae,qdu,z2,Bool.not_false,Bool.or_true,Bool.and_true,List.getElem?_cons_succ,List.getElem?_cons_zero]
end Go.Ab
namespace Go.Ab
open Go Go.Ab.Tab
theorem arms_p {m:Nat} {R:Rd} (hR:HypE R) (hB:BadE R) (hLen:LenR R) (d:Nat):BadA m R d:=by
 intro op ts e ts' hT h
 unfold qjn at h
 obtain⟨t,r,rfl,⟨hs,rfl,rfl⟩|⟨hs,h⟩⟩:=qf4 hT h
 ·obtain⟨E,z1⟩:=metP (qsy t r d hs) (.inl rfl) (qaa _ _) rfl
  refine qbc rfl Tryz.func287 rfl (by kernel_rfl) (m:=40) rfl (qal _ _) ?_;simp only[Z3,simprocAttr,Tryz.f287,effs,pans,qii,z1]
  exact qaw
 have hTr:=hT.tail (by rw[hs];decide)
 obtain⟨E1,a1,a2⟩:=met (qen t r d hs) rfl (qaa _ _) (qaa _ _) rfl
 obtain⟨t1,r1,rfl,⟨s1,rfl,rfl⟩|⟨w1,hT1,h⟩⟩:=qcw hTr h
 ·obtain⟨E,z1⟩:=metP (qfc [40] (by decide) t1 r1 d s1) (.inl rfl) (qaa _ _) rfl
  refine qbc rfl Tryz.func287 rfl (by kernel_rfl) (m:=40) rfl (qal _ _) ?_;simp only[Z3,simprocAttr,Tryz.f287,effs,pans,qii,a1,a2,z1]
  exact qaw
 obtain⟨E2,b1,b2⟩:=qce _ t1 r1 d w1
 rcases PR.bind_bad h with hl0|⟨l,tsl,hl2,h⟩
 ·obtain⟨E3,c1⟩:=q3f (h:=[.box (pbox r1 d),.box [.ptr 0 0],.box qaz,.box [.int .i64 op,.str t.text,.int .i64 0,.slice [] .full,.slice [] .full]]) rfl rfl (qaa _ _) (listA_p hR hB hLen d hT1 hl0) (qbb _ _)
  unfold qaz at c1
  refine qbc rfl Tryz.func287 rfl (by kernel_rfl) (m:=40) rfl (qal _ _) ?_;simp only[Z3,simprocAttr,Tryz.f287,effs,pans,qii,a1,a2,b1,b2,c1]
  exact qaw
 obtain⟨hT2,gl⟩:=listA_c hR hLen d hT1 hl2
 have hlen:=qsw hLen _ _ _ _ hl2
 have hle:=hT1.le
 obtain⟨t2,r2,rfl,⟨s2,rfl,rfl⟩|⟨_,_,h⟩⟩:=qcw hT2 h
 rotate_left
 ·cases h
 obtain⟨E3,c1,c2⟩:=qxc (h:=[.box (pbox r1 d),.box [.ptr 0 0],.box qaz,.box [.int .i64 op,.str t.text,.int .i64 0,.slice [] .full,.slice [] .full]]) rfl rfl (qaa _ _) (qaa _ _) gl rfl
 have c2:E3.of [.box (pbox r1 d),.box [.ptr 0 0],.box qaz,.box [.int .i64 op,.str t.text,.int .i64 0,.slice [] .full,.slice [] .full]]=[.box (pbox (t2::r2) d),.box [.ptr 0 0],.box qaz,.box [.int .i64 op,.str t.text,.int .i64 0,.slice [] .full,.slice [] .full]]:=c2
 unfold qaz at c1 c2
 have d5:=armC
 refine qbc rfl Tryz.func287 rfl (by kernel_rfl) (m:=40) rfl (qal _ _) ?_;simp only[Z3,simprocAttr,Tryz.f287,effs,pans,qii,a1,a2,b1,b2,c1,c2]
 generalize hb:qam PP cmp0 C lpC _=f;generalize hl:lpC f _=r
 obtain⟨ex,s',rfl,rfl,h2⟩:=qd0 (α:=ArmSt) hl [7,20,21,22,23,24,25,26,27,28,29,30,31,32,33,34,35,36,37] (fun a=>[(19,.int .i64 a.i)]) (fun a h=>h[0]? =some (.box (pbox (t2::r2) d))∧h[1]? =some (.box [.ptr 0 0])∧h[2]? =some (.box qaz)∧h[3]? =some (.box [AVal.int .i64 op,.str t.text,.int .i64 0,a.vc,a.vk])∧Grow2 h a.vc ((l.take a.i).map fun x=>[.str x.1]) 9∧Grow2 h a.vk ((l.take a.i).map fun x=>x.2.cells) 37∧a.i≤l.length) (fun a=>l.length-a.i) (fun _=>())
  (fun ts _ ex s=>ex= .exit 0∧OutT [7,19,20,21,22,23,24,25,26,27,28,29,30,31,32,33,34,35,36,37] ts [] (fun h=>h[0]? =some (.box (pbox (t2::r2) d))∧h[1]? =some (.box [.ptr 0 0])∧h[2]? =some (.box qaz)∧∃tc tk,h[3]? =some (.box [AVal.int .i64 op,.str t.text,.int .i64 0,.slice (l.map fun x=>[.str x.1]) tc,.slice (l.map fun x=>x.2.cells) tk])) s) ⟨0,.slice [] .full,.slice [] .full⟩ ⟨rfl,rfl,rfl,rfl,.inl rfl,.inl rfl,Nat.zero_le _⟩ (by simp only[AtT,ats,Int.natCast_zero]) (by
   rintro⟨i,vc,vk⟩ j G dd ⟨q0,q1,q2,q3,gc,gk,hi⟩
   clear hl;subst hb
   simp only at q0 q1 q2 q3 gc gk hi ⊢
   obtain⟨tc,hvc⟩:∃tc,vc= .slice ((l.take i).map fun x=>[.str x.1]) tc:=by rcases gc with h|⟨_,h,_⟩<;>exact⟨_,h⟩
   obtain⟨tk,hvk⟩:∃tk,vk= .slice ((l.take i).map fun x=>x.2.cells) tk:=by rcases gk with h|⟨_,h,_⟩<;>exact⟨_,h⟩
   subst hvc hvk
   by_cases hlt:i<l.length
   ·have e1:((i:Int)<(l.length:Int)):=by omega
    have e3:(l.map fun x=>armC x.1 x.2)[i]? =some [AVal.str l[i].1,.int .i64 l[i].2.op,.str l[i].2.name,.int .i64 l[i].2.n,.slice (l[i].2.cons.map fun s=>[.str s]) .free,.slice (l[i].2.kids.map PExpr.cells) .free]:=by
     rw[List.getElem?_map,List.getElem?_eq_getElem hlt,Option.map_some,armX]
    have g4:=(wa.1 q3).1
    obtain⟨G1,hG⟩:∃G1,G1=G++[Blk.box [AVal.str l[i].1,.int .i64 l[i].2.op,.str l[i].2.name,.int .i64 l[i].2.n,.slice (l[i].2.cons.map fun s=>[.str s]) .free,.slice (l[i].2.kids.map PExpr.cells) .free]]:=⟨_,rfl⟩
    have P3:G1[3]? =some (.box [AVal.int .i64 op,.str t.text,.int .i64 0,.slice ((l.take i).map fun x=>[.str x.1]) tc,.slice ((l.take i).map fun x=>x.2.cells) tk]):=by rw[hG];exact Boxes.app _ _ _ _ q3
    have Pt:G1[G.length]? =some (.box [AVal.str l[i].1,.int .i64 l[i].2.op,.str l[i].2.name,.int .i64 l[i].2.n,.slice (l[i].2.cons.map fun s=>[.str s]) .free,.slice (l[i].2.kids.map PExpr.cells) .free]):=by rw[hG];simp
    have gc1:=gc.box [Blk.box [AVal.str l[i].1,.int .i64 l[i].2.op,.str l[i].2.name,.int .i64 l[i].2.n,.slice (l[i].2.cons.map fun s=>[.str s]) .free,.slice (l[i].2.kids.map PExpr.cells) .free]]
    have gk1:=gk.box [Blk.box [AVal.str l[i].1,.int .i64 l[i].2.op,.str l[i].2.name,.int .i64 l[i].2.n,.slice (l[i].2.cons.map fun s=>[.str s]) .free,.slice (l[i].2.kids.map PExpr.cells) .free]]
    rw[←hG]at gc1 gk1
    have htl:(l.take i).length=i:=by rw[List.length_take];omega
    obtain⟨v1,E1,ha1,gc2,hB1,hO1⟩:=ql1 qgi (fs:=[[.str l[i].1]]) gc1 (by rw[wq,htl];simp only[wm,wt];unfold qac;omega) (by intro c hc;obtain⟨x,_,rfl⟩:=ww.1 hc;rfl) (by intro c hc;simp only[wv,wo,or_false]at hc;subst hc;rfl) (by simp)
    have gk2:=hO1 _ _ _ (by decide) gk1
    have r3:=hB1 _ _ P3
    have rt:=hB1 _ _ Pt
    obtain⟨tc1,hv1⟩:∃tc,v1= .slice ((l.take i).map (fun x=>[AVal.str x.1])++[[AVal.str l[i].1]]) tc:=by rcases gc2 with h|⟨_,h,_⟩<;>exact⟨_,h⟩
    subst hv1
    obtain⟨G2,hG2⟩:∃G2,G2=(E1.of G1).set 3 (.box [.int .i64 op,.str t.text,.int .i64 0,.slice ((l.take i).map (fun x=>[AVal.str x.1])++[[AVal.str l[i].1]]) tc1,.slice ((l.take i).map fun x=>x.2.cells) tk]):=⟨_,rfl⟩
    have l3:=(wa.1 r3).1
    have s3:G2[3]? =some (.box [.int .i64 op,.str t.text,.int .i64 0,.slice ((l.take i).map (fun x=>[AVal.str x.1])++[[AVal.str l[i].1]]) tc1,.slice ((l.take i).map fun x=>x.2.cells) tk]):=by rw[hG2,wk l3]
    have st:G2[G.length]? =some (.box [AVal.str l[i].1,.int .i64 l[i].2.op,.str l[i].2.name,.int .i64 l[i].2.n,.slice (l[i].2.cons.map fun s=>[.str s]) .free,.slice (l[i].2.kids.map PExpr.cells) .free]):=by rw[hG2,wd (by omega)];exact rt
    have gc3:=gc2.set (y:=[.int .i64 op,.str t.text,.int .i64 0,.slice ((l.take i).map (fun x=>[AVal.str x.1])++[[AVal.str l[i].1]]) tc1,.slice ((l.take i).map fun x=>x.2.cells) tk]) r3
    have gk3:=gk2.set (y:=[.int .i64 op,.str t.text,.int .i64 0,.slice ((l.take i).map (fun x=>[AVal.str x.1])++[[AVal.str l[i].1]]) tc1,.slice ((l.take i).map fun x=>x.2.cells) tk]) r3
    rw[←hG2]at gc3 gk3
    have ecs:[AVal.int .i64 l[i].2.op,.str l[i].2.name,.int .i64 l[i].2.n,.slice (l[i].2.cons.map fun s=>[.str s]) .free,.slice (l[i].2.kids.map PExpr.cells) .free]=l[i].2.cells:=(l[i].2.cells_eq).symm
    obtain⟨v2,E2,ha2,gk4,hB2,hO2⟩:=ql1 qh9 (fs:=[[AVal.int .i64 l[i].2.op,.str l[i].2.name,.int .i64 l[i].2.n,.slice (l[i].2.cons.map fun s=>[.str s]) .free,.slice (l[i].2.kids.map PExpr.cells) .free]]) gk3 (by rw[wq,htl];simp only[wm,wt];unfold qac;omega) (by intro c hc;obtain⟨x,_,rfl⟩:=ww.1 hc;exact x.2.len) (by intro c hc;simp only[wv,wo,or_false]at hc;subst hc;rfl) (by simp)
    have gc4:=hO2 _ _ _ (by decide) gc3
    have u3:=hB2 _ _ s3
    obtain⟨tk2,hv2⟩:∃tk,v2= .slice ((l.take i).map (fun x=>x.2.cells)++[[AVal.int .i64 l[i].2.op,.str l[i].2.name,.int .i64 l[i].2.n,.slice (l[i].2.cons.map fun s=>[.str s]) .free,.slice (l[i].2.kids.map PExpr.cells) .free]]) tk:=by rcases gk4 with h|⟨_,h,_⟩<;>exact⟨_,h⟩
    subst hv2
    simp only[Z3,simprocAttr,effs,qii,e1,e3,←hG,P3,Pt,ha1,r3,rt,←hG2,s3,st,ha2,u3,qav (show i≤qac by unfold qac;omega)]
    have keep:∀(k:Nat) (cs:List AVal) (y:Blk),k≠3→G[k]? =some (.box cs)→((E2.of G2).set 3 y)[k]? =some (.box cs):=by
     intro k cs y hk hq
     rw[wd (Ne.symm hk)]
     refine hB2 _ _ ?_
     rw[hG2,wd (Ne.symm hk)]
     refine hB1 _ _ ?_
     rw[hG];exact Boxes.app _ _ _ _ hq
    have l4:=(wa.1 u3).1
    have tkc:(l.take (i+1)).map (fun x=>[AVal.str x.1])=(l.take i).map (fun x=>[AVal.str x.1])++[[AVal.str l[i].1]]:=by rw[wc hlt,wu];rfl
    have tkk:(l.take (i+1)).map (fun x=>x.2.cells)=(l.take i).map (fun x=>x.2.cells)++[[AVal.int .i64 l[i].2.op,.str l[i].2.name,.int .i64 l[i].2.n,.slice (l[i].2.cons.map fun s=>[.str s]) .free,.slice (l[i].2.kids.map PExpr.cells) .free]]:=by rw[wc hlt,wu,ecs];rfl
    refine .inl ⟨⟨i+1,.slice ((l.take i).map (fun x=>[AVal.str x.1])++[[AVal.str l[i].1]]) tc1,.slice ((l.take i).map (fun x=>x.2.cells)++[[AVal.int .i64 l[i].2.op,.str l[i].2.name,.int .i64 l[i].2.n,.slice (l[i].2.cons.map fun s=>[.str s]) .free,.slice (l[i].2.kids.map PExpr.cells) .free]]) tk2⟩,_,rfl,⟨keep 0 _ _ (by decide) q0,keep 1 _ _ (by decide) q1,keep 2 _ _ (by decide) q2,wk l4,?_,?_,hlt⟩,by simp only[AtT,ats],by simp only[];omega,trivial⟩
    ·simp only[tkc];exact gc4.set u3
    ·simp only[tkk];exact gk4.set u3
   ·have e1:¬((i:Int)<(l.length:Int)):=by omega
    have hil:i=l.length:=by omega
    subst hil
    rw[List.take_length]at q3
    simp only[Z3,simprocAttr,effs,qii,e1]
    exact .inr ⟨_,_,rfl,by simp,rfl,by simp only[OutT,AtT,ats],q0,q1,q2,tc,tk,q3⟩)
 obtain⟨j,H,dd,hI,rfl⟩:=h2.elim
 have q0:=hI.1
 have q1:=hI.2.1
 have q2:=hI.2.2.1
 obtain⟨tc,tk,q3⟩:=hI.2.2.2
 clear hl
 obtain⟨E4,z4⟩:=stpP q0 (qfc [41] (by decide) t2 r2 d s2) (.inl rfl) (qaa _ _) rfl
 simp only[Z3,simprocAttr,effs,pans,qii,q1,z4]
 exact qaw
def cap (R:Rd):Rd:=fun o least ts=>if o≤100 then R o least ts else .out
theorem qsz {R:Rd} {o:Nat} (h:o≤100):cap R o=R o:=by
 funext least ts;simp only[cap,if_pos h]
theorem qzd {R R':Rd} {o:Nat} (h:R o=R' o):∀(n:Nat) (ts:List PTok),qcu R o n ts=qcu R' o n ts
 |0,_=>rfl
 |n+1,ts=>by simp only[qcu,h,qzd h n]
theorem q1y {R R':Rd} {o:Nat} (h:R o=R' o):∀(n:Nat) (ts:List PTok),qdh R o n ts=qdh R' o n ts
 |0,_=>rfl
 |n+1,ts=>by simp only[qdh,h,q1y h n]
theorem q5c {R R':Rd} {m o:Nat} {ts:List PTok} (h:R o=R' o):qe7 m R o ts=qe7 m R' o ts:=by
 simp only[qe7,qdl,qgx,qjn,qi0,h,qzd h,q1y h]
theorem q1z {R R':Rd} {o least:Nat} (h:R o=R' o):∀(n most:Nat) (left:PExpr) (ts:List PTok),qcm R o least n most left ts=qcm R' o least n most left ts
 |0,_,_,_=>rfl
 |n+1,most,left,ts=>by simp only[qcm,h,q1z h n]
theorem cap_hyp {R:Rd} (h:HypE R):HypE (cap R):=by
 intro o least ts e ts' hT hc
 simp only[cap]at hc
 split at hc
 ·exact h _ _ _ _ _ hT hc
 ·cases hc
theorem cap_len {R:Rd} (h:LenR R):LenR (cap R):=by
 intro o least ts e ts' hc
 simp only[cap]at hc
 split at hc
 ·exact h _ _ _ _ _ hc
 ·cases hc
theorem badE:∀n,BadE (cap (pE n))
 |0=>fun o least ts e ts' _ h=>by simp only[cap]at h;split at h<;>cases h
 |n+1=>fun o least ts e ts' hT h=>by
  have hR:=cap_hyp (que n)
  have hL:=cap_len (qng n)
  have hB:=badE n
  simp only[cap]at h
  split at h
  rotate_left
  ·cases h
  rename_i ho
  by_cases hl:least=0
  ·subst hl
   simp only[pE,if_true]at h
   split at h
   ·cases h
    rename_i h1
    exact⟨fun _=>q5b hT h1 (by omega),fun h0=>absurd h0 (by omega)⟩
   ·rw[q5c (qsz (by omega)).symm]at h
    have hp:=prefix_p hR hB hT (fun h=>sampled_p hR hB hL (parms_c hR hL (o+1)) (arms_p hR hB hL (o+1)) hT h) h
    exact⟨fun _=>unary_p (by omega) hp,fun h0=>absurd h0 (by omega)⟩
  ·simp only[pE,if_neg hl]at h
   refine⟨fun h0=>absurd h0 hl,fun _=> ?_⟩
   rcases PR.bind_bad h with h1|⟨left,ts1,h1,h2⟩
   ·rw[←qsz (R:=pE n) ho]at h1
    exact infix_u hB hT h1
   ·rw[q1z (qsz ho).symm]at h2
    rw[←qsz (R:=pE n) ho]at h1
    exact infix_p hR hB (by omega) hT h1 h2
end Go.Ab
namespace Go.Ab
open Go Go.Ab.Tab
end Go.Ab
namespace Go.Ab
open Go Go.Ab.Tab
end Go.Ab
namespace Go.Ab
open Go Go.Ab.Tab
end Go.Ab
namespace Go.Ab
open Go Go.Ab.Tab
end Go.Ab
namespace Go.Ab
open Go Go.Ab.Tab
end Go.Ab
namespace Go.Ab
open Go Go.Ab.Tab
end Go.Ab
