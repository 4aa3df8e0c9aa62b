/- The parser gives up: a state. -/
import Derived.Test.YtngklkmeknmloaaGreatDoorAbPsY
set_option linter.unusedSimpArgs false
set_option linter.unusedVariables false
set_option maxRecDepth 100000
set_option maxHeartbeats 4000000
open Go.Proofs
open List renaming length_nil→wa,length_cons→wb,getElem?_cons_succ→wc,getElem?_cons_zero→wd,getElem?_eq_some_iff→we,not_mem_nil→wg,length_map→wh,map_append→wi,tail_cons→wj,append_assoc→wm,mem_cons→wq,take_succ_eq_append_getElem→wt,append_nil→wu,mem_map→ww,getElem?_set_ne→wz,length_append→w6,cons_append→w7,nil_append→w8,getElem?_set_self→w9
open Bool renaming false_eq_true→wf,not_false→wk,and_true→wo,or_true→wv
open Nat renaming le_refl→waa
namespace Go.Ab
open Go Go.Ab.Tab
theorem sampled_p {m:Nat} {R:Rd} (hR:HypE R) (hB:BadE R) (hLen:LenR R) {d:Nat} (hA:HypA m R d) (hX:BadA m R d) {ts ts':List PTok} {e:Int} (hT:TsOk ts) (h:qd2 m R d ts= .bad e ts'):
 Pans C 247 [.ptr 0 0] [.box (pbox ts d)] (qa9 e ts'):=by
 unfold qd2 at h
 rcases PR.bind_bad h with h0|⟨a,ts1,ha,h⟩
 ·obtain⟨E,e1⟩:=metP (atom_p hR hB hLen hX hT h0) (.inl rfl) (qaa _ _) (qap _ _)
  refine qao rfl Tryz.func247 rfl (by kernel_rfl) (m:=38) rfl (qaf _ _) ?_;simp only[Z3,simprocAttr,Tryz.f247,effs,pans,qb3,e1]
  exact qah
 obtain⟨hT1,ga⟩:=atom_c hR hLen hA hT ha
 obtain⟨E,e1,e2⟩:=ga.m rfl
 rw[a.cells_eq,show qag a.cons= .slice (a.cons.map fun s=>[.str s]) .free from rfl]at e1
 obtain⟨t1,r1,rfl⟩:=hT1.ne
 cases hev:(a.op==14 && hasS [101,118,101,114,121] (t1::r1))
 ·rw[hev]at h
  simp only[wf,if_false]at h
  replace h:qdz m a (t1::r1)= .bad e ts':=h
  cases k14:(a.op==14)
  ·refine qao rfl Tryz.func247 rfl (by kernel_rfl) (m:=38) rfl (qaf _ _) ?_;simp only[Z3,simprocAttr,Tryz.f247,effs,pans,qb3,e1,e2,k14]
   generalize hb:qam PP cmp0 C lpC _=f;generalize hl:lpC f _=r
   obtain⟨ex,s',rfl,rfl⟩:=qes (α:=WhSt) hl [4,5,20,21,22,23,24,25,26,27,28,29,30,31,32,33,34,35,36,37] (fun _=>[]) (fun a=>[.box (pbox a.ts d),.box qax,.box (a.left.cellsT a.tk)]) (fun a=>TsOk a.ts∧qdz a.n a.left a.ts= .bad e ts') (fun a=>a.n) (fun _=>())
    (fun ts _ ex s=>ex= .pan (qa9 e ts')) ⟨m,a,.free,t1::r1⟩ ⟨hT1,h⟩ (At.of [] (by simp only[ats]<;>rfl) (by simp only[wu]<;>first|rfl|(rw[PExpr.cells_eq];rfl))) (by
     rintro⟨n,left,tk,ts⟩ j H dd ⟨hTs,hp⟩
     clear hl;subst hb
     simp only at hTs hp ⊢
     cases n with
     |zero=>cases hp
     |succ n=>
      obtain⟨t,r,rfl⟩:=hTs.ne
      simp only[qdz]at hp
      cases hh:hasS [119,104,101,110] (t::r)
      ·rw[hh]at hp
       simp only[wf,if_false]at hp
       cases hp
      ·rw[hh]at hp
       simp only[if_true]at hp
       obtain⟨_,_,hc,hTr,_,_⟩:=hTs.hasS hh
       cases hc
       simp only[wj]at hp
       obtain⟨V1,a1,a2⟩:=qda _ t r d hh
       obtain⟨t1,r1,rfl,⟨s1,rfl,rfl⟩|⟨s1,g1⟩⟩:=qd3 hTr hp
       ·obtain⟨E,z1⟩:=metP (qrv t1 r1 d s1) (.inl rfl) (qaa _ _) rfl
        simp only[Z3,simprocAttr,effs,pans,qb3,PExpr.cellsT,qax,a1,a2,z1,retp]
        exact .inr ⟨_,_,rfl,by simp,rfl⟩
       have hT1:=hTr.tail (by rw[s1];decide)
       obtain⟨V2,b1,b2⟩:=met (qfp t1 r1 d s1) rfl (qaa _ _) (qaa _ _) rfl
       obtain⟨t2,r2,rfl,⟨s2,rfl,rfl⟩|⟨w1,hT2,g2⟩⟩:=qa8 hT1 g1
       ·obtain⟨E,z1⟩:=metP (qb8 [40] (by decide) t2 r2 d s2) (.inl rfl) (qaa _ _) rfl
        simp only[Z3,simprocAttr,effs,pans,qb3,PExpr.cellsT,qax,a1,a2,b1,b2,z1,retp]
        exact .inr ⟨_,_,rfl,by simp,rfl⟩
       obtain⟨V3,c1,c2⟩:=qbr _ t2 r2 d w1
       obtain⟨t3,r3,rfl,⟨s3,rfl,rfl⟩|⟨s3,g3⟩⟩:=qd3 hT2 g2
       ·obtain⟨E,z1⟩:=metP (qmo t3 r3 d s3) (.inl rfl) (qaa _ _) rfl
        simp only[Z3,simprocAttr,effs,pans,qb3,PExpr.cellsT,qax,a1,a2,b1,b2,c1,c2,z1,retp]
        exact .inr ⟨_,_,rfl,by simp,rfl⟩
       have hT3:=hT2.tail (by rw[s3];decide)
       obtain⟨V4,d1,d2⟩:=met (qdy t3 r3 d s3) rfl (qaa _ _) (qaa _ _) rfl
       obtain⟨t4,r4,rfl,⟨s4,rfl,rfl⟩|⟨w2,hT4,g4⟩⟩:=qa8 hT3 g3
       ·obtain⟨E,z1⟩:=metP (qb8 [41] (by decide) t4 r4 d s4) (.inl rfl) (qaa _ _) rfl
        simp only[Z3,simprocAttr,effs,pans,qb3,PExpr.cellsT,qax,a1,a2,b1,b2,c1,c2,d1,d2,z1,retp]
        exact .inr ⟨_,_,rfl,by simp,rfl⟩
       obtain⟨V5,f1,f2⟩:=qbr _ t4 r4 d w2
       simp only[Z3,simprocAttr,effs,qb3,PExpr.cellsT,qax,a1,a2,b1,b2,c1,c2,d1,d2,f1,f2]
       exact .inl ⟨⟨n,qk0 t3.text t1.text left,.full,r4⟩,_,rfl,⟨hT4,g4⟩,At.of _ (by simp only[ats]<;>rfl) (by simp only[w7,wm,w8];rw[show[AVal.int .i64 left.op,.str left.name,.int .i64 left.n,.slice (left.cons.map fun s=>[.str s]) .free,.slice (left.kids.map PExpr.cells) .free]=left.cells from left.cells_eq.symm];rfl),by simp only[];omega,trivial⟩)
   clear hl
   simp only[Z3,simprocAttr,effs,pans,qb3]
   exact qah
  ·have k2:hasS [101,118,101,114,121] (t1::r1)=false:=by rw[k14]at hev;simpa using hev
   have c0:=qev [101,118,101,114,121] (by decide) t1 r1 d k2
   refine qao rfl Tryz.func247 rfl (by kernel_rfl) (m:=38) rfl (qaf _ _) ?_;simp only[Z3,simprocAttr,Tryz.f247,effs,pans,qb3,e1,e2,k14,c0]
   generalize hb:qam PP cmp0 C lpC _=f;generalize hl:lpC f _=r
   obtain⟨ex,s',rfl,rfl⟩:=qes (α:=WhSt) hl [4,5,20,21,22,23,24,25,26,27,28,29,30,31,32,33,34,35,36,37] (fun _=>[]) (fun a=>[.box (pbox a.ts d),.box qax,.box (a.left.cellsT a.tk)]) (fun a=>TsOk a.ts∧qdz a.n a.left a.ts= .bad e ts') (fun a=>a.n) (fun _=>())
    (fun ts _ ex s=>ex= .pan (qa9 e ts')) ⟨m,a,.free,t1::r1⟩ ⟨hT1,h⟩ (At.of [] (by simp only[ats]<;>rfl) (by simp only[wu]<;>first|rfl|(rw[PExpr.cells_eq];rfl))) (by
     rintro⟨n,left,tk,ts⟩ j H dd ⟨hTs,hp⟩
     clear hl;subst hb
     simp only at hTs hp ⊢
     cases n with
     |zero=>cases hp
     |succ n=>
      obtain⟨t,r,rfl⟩:=hTs.ne
      simp only[qdz]at hp
      cases hh:hasS [119,104,101,110] (t::r)
      ·rw[hh]at hp
       simp only[wf,if_false]at hp
       cases hp
      ·rw[hh]at hp
       simp only[if_true]at hp
       obtain⟨_,_,hc,hTr,_,_⟩:=hTs.hasS hh
       cases hc
       simp only[wj]at hp
       obtain⟨V1,a1,a2⟩:=qda _ t r d hh
       obtain⟨t1,r1,rfl,⟨s1,rfl,rfl⟩|⟨s1,g1⟩⟩:=qd3 hTr hp
       ·obtain⟨E,z1⟩:=metP (qrv t1 r1 d s1) (.inl rfl) (qaa _ _) rfl
        simp only[Z3,simprocAttr,effs,pans,qb3,PExpr.cellsT,qax,a1,a2,z1,retp]
        exact .inr ⟨_,_,rfl,by simp,rfl⟩
       have hT1:=hTr.tail (by rw[s1];decide)
       obtain⟨V2,b1,b2⟩:=met (qfp t1 r1 d s1) rfl (qaa _ _) (qaa _ _) rfl
       obtain⟨t2,r2,rfl,⟨s2,rfl,rfl⟩|⟨w1,hT2,g2⟩⟩:=qa8 hT1 g1
       ·obtain⟨E,z1⟩:=metP (qb8 [40] (by decide) t2 r2 d s2) (.inl rfl) (qaa _ _) rfl
        simp only[Z3,simprocAttr,effs,pans,qb3,PExpr.cellsT,qax,a1,a2,b1,b2,z1,retp]
        exact .inr ⟨_,_,rfl,by simp,rfl⟩
       obtain⟨V3,c1,c2⟩:=qbr _ t2 r2 d w1
       obtain⟨t3,r3,rfl,⟨s3,rfl,rfl⟩|⟨s3,g3⟩⟩:=qd3 hT2 g2
       ·obtain⟨E,z1⟩:=metP (qmo t3 r3 d s3) (.inl rfl) (qaa _ _) rfl
        simp only[Z3,simprocAttr,effs,pans,qb3,PExpr.cellsT,qax,a1,a2,b1,b2,c1,c2,z1,retp]
        exact .inr ⟨_,_,rfl,by simp,rfl⟩
       have hT3:=hT2.tail (by rw[s3];decide)
       obtain⟨V4,d1,d2⟩:=met (qdy t3 r3 d s3) rfl (qaa _ _) (qaa _ _) rfl
       obtain⟨t4,r4,rfl,⟨s4,rfl,rfl⟩|⟨w2,hT4,g4⟩⟩:=qa8 hT3 g3
       ·obtain⟨E,z1⟩:=metP (qb8 [41] (by decide) t4 r4 d s4) (.inl rfl) (qaa _ _) rfl
        simp only[Z3,simprocAttr,effs,pans,qb3,PExpr.cellsT,qax,a1,a2,b1,b2,c1,c2,d1,d2,z1,retp]
        exact .inr ⟨_,_,rfl,by simp,rfl⟩
       obtain⟨V5,f1,f2⟩:=qbr _ t4 r4 d w2
       simp only[Z3,simprocAttr,effs,qb3,PExpr.cellsT,qax,a1,a2,b1,b2,c1,c2,d1,d2,f1,f2]
       exact .inl ⟨⟨n,qk0 t3.text t1.text left,.full,r4⟩,_,rfl,⟨hT4,g4⟩,At.of _ (by simp only[ats]<;>rfl) (by simp only[w7,wm,w8];rw[show[AVal.int .i64 left.op,.str left.name,.int .i64 left.n,.slice (left.cons.map fun s=>[.str s]) .free,.slice (left.kids.map PExpr.cells) .free]=left.cells from left.cells_eq.symm];rfl),by simp only[];omega,trivial⟩)
   clear hl
   simp only[Z3,simprocAttr,effs,pans,qb3]
   exact qah
 ·rw[hev]at h
  simp only[if_true,wj]at h
  simp only[Bool.and_eq_true]at hev
  obtain⟨_,_,hc,hTr,_,_⟩:=hT1.hasS hev.2
  cases hc
  obtain⟨V,v1,v2⟩:=qda _ t1 r1 d hev.2
  have k14:=hev.1
  rcases PR.bind_bad h with h1|⟨b,ts3,hbb,h⟩
  ·rcases PR.bind_bad h1 with hk|⟨_,_,_,hk⟩
   ·obtain⟨K,y1⟩:=metP ((hB _ _ _ _ _ hTr hk).1 rfl) (.inl rfl) (qaa _ _) (qap _ _)
    refine qao rfl Tryz.func247 rfl (by kernel_rfl) (m:=38) rfl (qaf _ _) ?_;simp only[Z3,simprocAttr,Tryz.f247,effs,pans,qb3,e1,e2,k14,v1,v2,y1,retp]
    rw[qiq (by kernel_rfl)]
    exact qah
   ·cases hk
  obtain⟨k,ts2,hk,hbb⟩:=PR.bind_ok hbb
  cases hbb
  obtain⟨hT3,gk,_⟩:=hR _ _ _ _ _ hTr hk
  obtain⟨K,y1,y2,y3⟩:=(gk rfl).m3 rfl
  refine qao rfl Tryz.func247 rfl (by kernel_rfl) (m:=38) rfl (qaf _ _) ?_;simp only[Z3,simprocAttr,Tryz.f247,effs,pans,qb3,e1,e2,k14,v1,v2,y1,y2,qgd,qen,qmc _ _ _ _]
  rw[qcr]
  ·simp only[Z3,simprocAttr,effs,pans,qb3,y2,qgd,qen,qmc _ _ _ _]
   generalize hb:qam PP cmp0 C lpC _=f;generalize hl:lpC f _=r
   obtain⟨ex,s',rfl,rfl⟩:=qes (α:=WhSt) hl [4,5,20,21,22,23,24,25,26,27,28,29,30,31,32,33,34,35,36,37] (fun _=>[]) (fun a=>[.box (pbox a.ts d),.box qax,.box (a.left.cellsT a.tk)]) (fun a=>TsOk a.ts∧qdz a.n a.left a.ts= .bad e ts') (fun a=>a.n) (fun _=>())
    (fun ts _ ex s=>ex= .pan (qa9 e ts')) ⟨m,qn0 a k,.free,ts3⟩ ⟨hT3,h⟩ (At.of [] (by simp only[ats]<;>rfl) (by simp only[wu]<;>first|rfl|(rw[PExpr.cells_eq];rfl))) (by
     rintro⟨n,left,tk,ts⟩ j H dd ⟨hTs,hp⟩
     clear hl;subst hb
     simp only at hTs hp ⊢
     cases n with
     |zero=>cases hp
     |succ n=>
      obtain⟨t,r,rfl⟩:=hTs.ne
      simp only[qdz]at hp
      cases hh:hasS [119,104,101,110] (t::r)
      ·rw[hh]at hp
       simp only[wf,if_false]at hp
       cases hp
      ·rw[hh]at hp
       simp only[if_true]at hp
       obtain⟨_,_,hc,hTr,_,_⟩:=hTs.hasS hh
       cases hc
       simp only[wj]at hp
       obtain⟨V1,a1,a2⟩:=qda _ t r d hh
       obtain⟨t1,r1,rfl,⟨s1,rfl,rfl⟩|⟨s1,g1⟩⟩:=qd3 hTr hp
       ·obtain⟨E,z1⟩:=metP (qrv t1 r1 d s1) (.inl rfl) (qaa _ _) rfl
        simp only[Z3,simprocAttr,effs,pans,qb3,PExpr.cellsT,qax,a1,a2,z1,retp]
        exact .inr ⟨_,_,rfl,by simp,rfl⟩
       have hT1:=hTr.tail (by rw[s1];decide)
       obtain⟨V2,b1,b2⟩:=met (qfp t1 r1 d s1) rfl (qaa _ _) (qaa _ _) rfl
       obtain⟨t2,r2,rfl,⟨s2,rfl,rfl⟩|⟨w1,hT2,g2⟩⟩:=qa8 hT1 g1
       ·obtain⟨E,z1⟩:=metP (qb8 [40] (by decide) t2 r2 d s2) (.inl rfl) (qaa _ _) rfl
        simp only[Z3,simprocAttr,effs,pans,qb3,PExpr.cellsT,qax,a1,a2,b1,b2,z1,retp]
        exact .inr ⟨_,_,rfl,by simp,rfl⟩
       obtain⟨V3,c1,c2⟩:=qbr _ t2 r2 d w1
       obtain⟨t3,r3,rfl,⟨s3,rfl,rfl⟩|⟨s3,g3⟩⟩:=qd3 hT2 g2
       ·obtain⟨E,z1⟩:=metP (qmo t3 r3 d s3) (.inl rfl) (qaa _ _) rfl
        simp only[Z3,simprocAttr,effs,pans,qb3,PExpr.cellsT,qax,a1,a2,b1,b2,c1,c2,z1,retp]
        exact .inr ⟨_,_,rfl,by simp,rfl⟩
       have hT3:=hT2.tail (by rw[s3];decide)
       obtain⟨V4,d1,d2⟩:=met (qdy t3 r3 d s3) rfl (qaa _ _) (qaa _ _) rfl
       obtain⟨t4,r4,rfl,⟨s4,rfl,rfl⟩|⟨w2,hT4,g4⟩⟩:=qa8 hT3 g3
       ·obtain⟨E,z1⟩:=metP (qb8 [41] (by decide) t4 r4 d s4) (.inl rfl) (qaa _ _) rfl
        simp only[Z3,simprocAttr,effs,pans,qb3,PExpr.cellsT,qax,a1,a2,b1,b2,c1,c2,d1,d2,z1,retp]
        exact .inr ⟨_,_,rfl,by simp,rfl⟩
       obtain⟨V5,f1,f2⟩:=qbr _ t4 r4 d w2
       simp only[Z3,simprocAttr,effs,qb3,PExpr.cellsT,qax,a1,a2,b1,b2,c1,c2,d1,d2,f1,f2]
       exact .inl ⟨⟨n,qk0 t3.text t1.text left,.full,r4⟩,_,rfl,⟨hT4,g4⟩,At.of _ (by simp only[ats]<;>rfl) (by simp only[w7,wm,w8];rw[show[AVal.int .i64 left.op,.str left.name,.int .i64 left.n,.slice (left.cons.map fun s=>[.str s]) .free,.slice (left.kids.map PExpr.cells) .free]=left.cells from left.cells_eq.symm];rfl),by simp only[];omega,trivial⟩)
   clear hl
   simp only[Z3,simprocAttr,effs,pans,qb3]
   exact qah
  ·kernel_rfl
  ·have z2:=y3 [Blk.box qax,Blk.box (a.cellsT .free)] 2 (by omega) (by simp)
   unfold qax PExpr.cellsT at z2
   simp only[qaj,qbx,qae,qcp,z2,wk,wv,wo,wc,wd]
end Go.Ab
namespace Go.Ab
open Go Go.Ab.Tab
theorem arms_p {m:Nat} {R:Rd} (hR:HypE R) (hB:BadE R) (hLen:LenR R) (d:Nat):BadA m R d:=by
 intro op ts e ts' hT h
 unfold qja at h
 obtain⟨t,r,rfl,⟨hs,rfl,rfl⟩|⟨hs,h⟩⟩:=qd3 hT h
 ·obtain⟨E,z1⟩:=metP (qmo t r d hs) (.inl rfl) (qaa _ _) rfl
  refine qao rfl Tryz.func287 rfl (by kernel_rfl) (m:=40) rfl (qaf _ _) ?_;simp only[Z3,simprocAttr,Tryz.f287,effs,pans,qip,z1]
  exact qah
 have hTr:=hT.tail (by rw[hs];decide)
 obtain⟨E1,a1,a2⟩:=met (qdy t r d hs) rfl (qaa _ _) (qaa _ _) rfl
 obtain⟨t1,r1,rfl,⟨s1,rfl,rfl⟩|⟨w1,hT1,h⟩⟩:=qa8 hTr h
 ·obtain⟨E,z1⟩:=metP (qb8 [40] (by decide) t1 r1 d s1) (.inl rfl) (qaa _ _) rfl
  refine qao rfl Tryz.func287 rfl (by kernel_rfl) (m:=40) rfl (qaf _ _) ?_;simp only[Z3,simprocAttr,Tryz.f287,effs,pans,qip,a1,a2,z1]
  exact qah
 obtain⟨E2,b1,b2⟩:=qbr _ t1 r1 d w1
 rcases PR.bind_bad h with hl0|⟨l,tsl,hl2,h⟩
 ·obtain⟨E3,c1⟩:=q3r (h:=[.box (pbox r1 d),.box [.ptr 0 0],.box qax,.box [.int .i64 op,.str t.text,.int .i64 0,.slice [] .full,.slice [] .full]]) rfl rfl (qaa _ _) (listA_p hR hB hLen d hT1 hl0) (qap _ _)
  unfold qax at c1
  refine qao rfl Tryz.func287 rfl (by kernel_rfl) (m:=40) rfl (qaf _ _) ?_;simp only[Z3,simprocAttr,Tryz.f287,effs,pans,qip,a1,a2,b1,b2,c1]
  exact qah
 obtain⟨hT2,gl⟩:=listA_c hR hLen d hT1 hl2
 have hlen:=qth hLen _ _ _ _ hl2
 have hle:=hT1.le
 obtain⟨t2,r2,rfl,⟨s2,rfl,rfl⟩|⟨_,_,h⟩⟩:=qa8 hT2 h
 rotate_left
 ·cases h
 obtain⟨E3,c1,c2⟩:=qxx (h:=[.box (pbox r1 d),.box [.ptr 0 0],.box qax,.box [.int .i64 op,.str t.text,.int .i64 0,.slice [] .full,.slice [] .full]]) rfl rfl (qaa _ _) (qaa _ _) gl rfl
 have c2:E3.of [.box (pbox r1 d),.box [.ptr 0 0],.box qax,.box [.int .i64 op,.str t.text,.int .i64 0,.slice [] .full,.slice [] .full]]=[.box (pbox (t2::r2) d),.box [.ptr 0 0],.box qax,.box [.int .i64 op,.str t.text,.int .i64 0,.slice [] .full,.slice [] .full]]:=c2
 unfold qax at c1 c2
 have d5:=armC
 refine qao rfl Tryz.func287 rfl (by kernel_rfl) (m:=40) rfl (qaf _ _) ?_;simp only[Z3,simprocAttr,Tryz.f287,effs,pans,qip,a1,a2,b1,b2,c1,c2]
 generalize hb:qam PP cmp0 C lpC _=f;generalize hl:lpC f _=r
 obtain⟨ex,s',rfl,rfl,h2⟩:=qch (α:=ArmSt) hl [7,20,21,22,23,24,25,26,27,28,29,30,31,32,33,34,35,36,37] (fun a=>[(19,.int .i64 a.i)]) (fun a h=>h[0]? =some (.box (pbox (t2::r2) d))∧h[1]? =some (.box [.ptr 0 0])∧h[2]? =some (.box qax)∧h[3]? =some (.box [AVal.int .i64 op,.str t.text,.int .i64 0,a.vc,a.vk])∧Grow2 h a.vc ((l.take a.i).map fun x=>[.str x.1]) 9∧Grow2 h a.vk ((l.take a.i).map fun x=>x.2.cells) 37∧a.i≤l.length) (fun a=>l.length-a.i) (fun _=>())
  (fun ts _ ex s=>ex= .exit 0∧OutT [7,19,20,21,22,23,24,25,26,27,28,29,30,31,32,33,34,35,36,37] ts [] (fun h=>h[0]? =some (.box (pbox (t2::r2) d))∧h[1]? =some (.box [.ptr 0 0])∧h[2]? =some (.box qax)∧∃tc tk,h[3]? =some (.box [AVal.int .i64 op,.str t.text,.int .i64 0,.slice (l.map fun x=>[.str x.1]) tc,.slice (l.map fun x=>x.2.cells) tk])) s) ⟨0,.slice [] .full,.slice [] .full⟩ ⟨rfl,rfl,rfl,rfl,.inl rfl,.inl rfl,Nat.zero_le _⟩ (by simp only[AtT,ats,Int.natCast_zero]) (by
   rintro⟨i,vc,vk⟩ j G dd ⟨q0,q1,q2,q3,gc,gk,hi⟩
   clear hl;subst hb
   simp only at q0 q1 q2 q3 gc gk hi ⊢
   obtain⟨tc,hvc⟩:∃tc,vc= .slice ((l.take i).map fun x=>[.str x.1]) tc:=by rcases gc with h|⟨_,h,_⟩<;>exact⟨_,h⟩
   obtain⟨tk,hvk⟩:∃tk,vk= .slice ((l.take i).map fun x=>x.2.cells) tk:=by rcases gk with h|⟨_,h,_⟩<;>exact⟨_,h⟩
   subst hvc hvk
   by_cases hlt:i<l.length
   ·have e1:((i:Int)<(l.length:Int)):=by omega
    have e3:(l.map fun x=>armC x.1 x.2)[i]? =some [AVal.str l[i].1,.int .i64 l[i].2.op,.str l[i].2.name,.int .i64 l[i].2.n,.slice (l[i].2.cons.map fun s=>[.str s]) .free,.slice (l[i].2.kids.map PExpr.cells) .free]:=by
     rw[List.getElem?_map,List.getElem?_eq_getElem hlt,Option.map_some,armX]
    have g4:=(we.1 q3).1
    obtain⟨G1,hG⟩:∃G1,G1=G++[Blk.box [AVal.str l[i].1,.int .i64 l[i].2.op,.str l[i].2.name,.int .i64 l[i].2.n,.slice (l[i].2.cons.map fun s=>[.str s]) .free,.slice (l[i].2.kids.map PExpr.cells) .free]]:=⟨_,rfl⟩
    have P3:G1[3]? =some (.box [AVal.int .i64 op,.str t.text,.int .i64 0,.slice ((l.take i).map fun x=>[.str x.1]) tc,.slice ((l.take i).map fun x=>x.2.cells) tk]):=by rw[hG];exact Boxes.app _ _ _ _ q3
    have Pt:G1[G.length]? =some (.box [AVal.str l[i].1,.int .i64 l[i].2.op,.str l[i].2.name,.int .i64 l[i].2.n,.slice (l[i].2.cons.map fun s=>[.str s]) .free,.slice (l[i].2.kids.map PExpr.cells) .free]):=by rw[hG];simp
    have gc1:=gc.box [Blk.box [AVal.str l[i].1,.int .i64 l[i].2.op,.str l[i].2.name,.int .i64 l[i].2.n,.slice (l[i].2.cons.map fun s=>[.str s]) .free,.slice (l[i].2.kids.map PExpr.cells) .free]]
    have gk1:=gk.box [Blk.box [AVal.str l[i].1,.int .i64 l[i].2.op,.str l[i].2.name,.int .i64 l[i].2.n,.slice (l[i].2.cons.map fun s=>[.str s]) .free,.slice (l[i].2.kids.map PExpr.cells) .free]]
    rw[←hG]at gc1 gk1
    have htl:(l.take i).length=i:=by rw[List.length_take];omega
    obtain⟨v1,E1,ha1,gc2,hB1,hO1⟩:=qml qgx (fs:=[[.str l[i].1]]) gc1 (by rw[wh,htl];simp only[wb,wa];unfold qac;omega) (by intro c hc;obtain⟨x,_,rfl⟩:=ww.1 hc;rfl) (by intro c hc;simp only[wq,wg,or_false]at hc;subst hc;rfl) (by simp)
    have gk2:=hO1 _ _ _ (by decide) gk1
    have r3:=hB1 _ _ P3
    have rt:=hB1 _ _ Pt
    obtain⟨tc1,hv1⟩:∃tc,v1= .slice ((l.take i).map (fun x=>[AVal.str x.1])++[[AVal.str l[i].1]]) tc:=by rcases gc2 with h|⟨_,h,_⟩<;>exact⟨_,h⟩
    subst hv1
    obtain⟨G2,hG2⟩:∃G2,G2=(E1.of G1).set 3 (.box [.int .i64 op,.str t.text,.int .i64 0,.slice ((l.take i).map (fun x=>[AVal.str x.1])++[[AVal.str l[i].1]]) tc1,.slice ((l.take i).map fun x=>x.2.cells) tk]):=⟨_,rfl⟩
    have l3:=(we.1 r3).1
    have s3:G2[3]? =some (.box [.int .i64 op,.str t.text,.int .i64 0,.slice ((l.take i).map (fun x=>[AVal.str x.1])++[[AVal.str l[i].1]]) tc1,.slice ((l.take i).map fun x=>x.2.cells) tk]):=by rw[hG2,w9 l3]
    have st:G2[G.length]? =some (.box [AVal.str l[i].1,.int .i64 l[i].2.op,.str l[i].2.name,.int .i64 l[i].2.n,.slice (l[i].2.cons.map fun s=>[.str s]) .free,.slice (l[i].2.kids.map PExpr.cells) .free]):=by rw[hG2,wz (by omega)];exact rt
    have gc3:=gc2.set (y:=[.int .i64 op,.str t.text,.int .i64 0,.slice ((l.take i).map (fun x=>[AVal.str x.1])++[[AVal.str l[i].1]]) tc1,.slice ((l.take i).map fun x=>x.2.cells) tk]) r3
    have gk3:=gk2.set (y:=[.int .i64 op,.str t.text,.int .i64 0,.slice ((l.take i).map (fun x=>[AVal.str x.1])++[[AVal.str l[i].1]]) tc1,.slice ((l.take i).map fun x=>x.2.cells) tk]) r3
    rw[←hG2]at gc3 gk3
    have ecs:[AVal.int .i64 l[i].2.op,.str l[i].2.name,.int .i64 l[i].2.n,.slice (l[i].2.cons.map fun s=>[.str s]) .free,.slice (l[i].2.kids.map PExpr.cells) .free]=l[i].2.cells:=(l[i].2.cells_eq).symm
    obtain⟨v2,E2,ha2,gk4,hB2,hO2⟩:=qml qie (fs:=[[AVal.int .i64 l[i].2.op,.str l[i].2.name,.int .i64 l[i].2.n,.slice (l[i].2.cons.map fun s=>[.str s]) .free,.slice (l[i].2.kids.map PExpr.cells) .free]]) gk3 (by rw[wh,htl];simp only[wb,wa];unfold qac;omega) (by intro c hc;obtain⟨x,_,rfl⟩:=ww.1 hc;exact x.2.len) (by intro c hc;simp only[wq,wg,or_false]at hc;subst hc;rfl) (by simp)
    have gc4:=hO2 _ _ _ (by decide) gc3
    have u3:=hB2 _ _ s3
    obtain⟨tk2,hv2⟩:∃tk,v2= .slice ((l.take i).map (fun x=>x.2.cells)++[[AVal.int .i64 l[i].2.op,.str l[i].2.name,.int .i64 l[i].2.n,.slice (l[i].2.cons.map fun s=>[.str s]) .free,.slice (l[i].2.kids.map PExpr.cells) .free]]) tk:=by rcases gk4 with h|⟨_,h,_⟩<;>exact⟨_,h⟩
    subst hv2
    simp only[Z3,simprocAttr,effs,qip,e1,e3,←hG,P3,Pt,ha1,r3,rt,←hG2,s3,st,ha2,u3,qaz (show i≤qac by unfold qac;omega)]
    have keep:∀(k:Nat) (cs:List AVal) (y:Blk),k≠3→G[k]? =some (.box cs)→((E2.of G2).set 3 y)[k]? =some (.box cs):=by
     intro k cs y hk hq
     rw[wz (Ne.symm hk)]
     refine hB2 _ _ ?_
     rw[hG2,wz (Ne.symm hk)]
     refine hB1 _ _ ?_
     rw[hG];exact Boxes.app _ _ _ _ hq
    have l4:=(we.1 u3).1
    have tkc:(l.take (i+1)).map (fun x=>[AVal.str x.1])=(l.take i).map (fun x=>[AVal.str x.1])++[[AVal.str l[i].1]]:=by rw[wt hlt,wi];rfl
    have tkk:(l.take (i+1)).map (fun x=>x.2.cells)=(l.take i).map (fun x=>x.2.cells)++[[AVal.int .i64 l[i].2.op,.str l[i].2.name,.int .i64 l[i].2.n,.slice (l[i].2.cons.map fun s=>[.str s]) .free,.slice (l[i].2.kids.map PExpr.cells) .free]]:=by rw[wt hlt,wi,ecs];rfl
    refine .inl ⟨⟨i+1,.slice ((l.take i).map (fun x=>[AVal.str x.1])++[[AVal.str l[i].1]]) tc1,.slice ((l.take i).map (fun x=>x.2.cells)++[[AVal.int .i64 l[i].2.op,.str l[i].2.name,.int .i64 l[i].2.n,.slice (l[i].2.cons.map fun s=>[.str s]) .free,.slice (l[i].2.kids.map PExpr.cells) .free]]) tk2⟩,_,rfl,⟨keep 0 _ _ (by decide) q0,keep 1 _ _ (by decide) q1,keep 2 _ _ (by decide) q2,w9 l4,?_,?_,hlt⟩,by simp only[AtT,ats],by simp only[];omega,trivial⟩
    ·simp only[tkc];exact gc4.set u3
    ·simp only[tkk];exact gk4.set u3
   ·have e1:¬((i:Int)<(l.length:Int)):=by omega
    have hil:i=l.length:=by omega
    subst hil
    rw[List.take_length]at q3
    simp only[Z3,simprocAttr,effs,qip,e1]
    exact .inr ⟨_,_,rfl,by simp,rfl,by simp only[OutT,AtT,ats],q0,q1,q2,tc,tk,q3⟩)
 obtain⟨j,H,dd,hI,rfl⟩:=h2.elim
 have q0:=hI.1
 have q1:=hI.2.1
 have q2:=hI.2.2.1
 obtain⟨tc,tk,q3⟩:=hI.2.2.2
 clear hl
 obtain⟨E4,z4⟩:=stpP q0 (qb8 [41] (by decide) t2 r2 d s2) (.inl rfl) (qaa _ _) rfl
 simp only[Z3,simprocAttr,effs,pans,qip,q1,z4]
 exact qah
def cap (R:Rd):Rd:=fun o least ts=>if o≤100 then R o least ts else .out
theorem qtj {R:Rd} {o:Nat} (h:o≤100):cap R o=R o:=by
 funext least ts;simp only[cap,if_pos h]
theorem qzx {R R':Rd} {o:Nat} (h:R o=R' o):∀(n:Nat) (ts:List PTok),qej R o n ts=qej R' o n ts
 |0,_=>rfl
 |n+1,ts=>by simp only[qej,h,qzx h n]
theorem q2e {R R':Rd} {o:Nat} (h:R o=R' o):∀(n:Nat) (ts:List PTok),qey R o n ts=qey R' o n ts
 |0,_=>rfl
 |n+1,ts=>by simp only[qey,h,q2e h n]
theorem q5k {R R':Rd} {m o:Nat} {ts:List PTok} (h:R o=R' o):qef m R o ts=qef m R' o ts:=by
 simp only[qef,qd2,qhu,qja,qii,h,qzx h,q2e h]
theorem q2f {R R':Rd} {o least:Nat} (h:R o=R' o):∀(n most:Nat) (left:PExpr) (ts:List PTok),qez R o least n most left ts=qez R' o least n most left ts
 |0,_,_,_=>rfl
 |n+1,most,left,ts=>by simp only[qez,h,q2f h n]
theorem cap_hyp {R:Rd} (h:HypE R):HypE (cap R):=by
 intro o least ts e ts' hT hc
 simp only[cap]at hc
 split at hc
 ·exact h _ _ _ _ _ hT hc
 ·cases hc
theorem cap_len {R:Rd} (h:LenR R):LenR (cap R):=by
 intro o least ts e ts' hc
 simp only[cap]at hc
 split at hc
 ·exact h _ _ _ _ _ hc
 ·cases hc
theorem badE:∀n,BadE (cap (pE n))
 |0=>fun o least ts e ts' _ h=>by simp only[cap]at h;split at h<;>cases h
 |n+1=>fun o least ts e ts' hT h=>by
  have hR:=cap_hyp (quv n)
  have hL:=cap_len (qk6 n)
  have hB:=badE n
  simp only[cap]at h
  split at h
  rotate_left
  ·cases h
  rename_i ho
  by_cases hl:least=0
  ·subst hl
   simp only[pE,if_true]at h
   split at h
   ·cases h
    rename_i h1
    exact⟨fun _=>q5j hT h1 (by omega),fun h0=>absurd h0 (by omega)⟩
   ·rw[q5k (qtj (by omega)).symm]at h
    have hp:=prefix_p hR hB hT (fun h=>sampled_p hR hB hL (parms_c hR hL (o+1)) (arms_p hR hB hL (o+1)) hT h) h
    exact⟨fun _=>unary_p (by omega) hp,fun h0=>absurd h0 (by omega)⟩
  ·simp only[pE,if_neg hl]at h
   refine⟨fun h0=>absurd h0 hl,fun _=> ?_⟩
   rcases PR.bind_bad h with h1|⟨left,ts1,h1,h2⟩
   ·rw[←qtj (R:=pE n) ho]at h1
    exact infix_u hB hT h1
   ·rw[q2f (qtj ho).symm]at h2
    rw[←qtj (R:=pE n) ho]at h1
    exact infix_p hR hB (by omega) hT h1 h2
end Go.Ab
namespace Go.Ab
open Go Go.Ab.Tab
theorem peq_p {R:Rd} (hR:HypE R) (hB:BadE R) {m:Nat} {ts ts':List PTok} {e:Int} (hT:TsOk ts) (h:pEq m R ts= .bad e ts'):
 Pans C 199 [.ptr 0 0] [.box (pbox ts 0)] (qa9 e ts'):=by
 unfold pEq at h
 obtain⟨t,r,rfl⟩:=hT.ne
 by_cases hp:hasS [40] (t::r)=true
 ·have s0:=qg2 hp
  rw[if_pos hp]at h
  rcases PR.bind_bad h with h1|⟨l,ts1,hl,hk⟩
  ·obtain⟨E,z1⟩:=metP (qll (by decide) (by decide) (d:=0) hT h1) (.inl rfl) (qaa _ _) (qap _ _)
   refine qao rfl Tryz.func199 rfl (by kernel_rfl) (m:=23) rfl (qaf _ _) ?_;simp only[Z3,simprocAttr,Tryz.f199,effs,pans,qjj,qbb,s0,z1]
   exact qah
  obtain⟨hT1,g1⟩:=qec (d:=0) hT hl
  obtain⟨E1,a1,a2⟩:=met g1 rfl (qaa _ _) (qaa _ _) rfl
  obtain⟨t1,r1,rfl,⟨q1,rfl,rfl⟩|⟨w1,hT1',hk⟩⟩:=qa8 hT1 hk
  ·obtain⟨E,z1⟩:=metP (qb8 [61] (by decide) t1 r1 0 q1) (.inl rfl) (qaa _ _) rfl
   refine qao rfl Tryz.func199 rfl (by kernel_rfl) (m:=23) rfl (qaf _ _) ?_;simp only[Z3,simprocAttr,Tryz.f199,effs,pans,qjj,qbb,s0,a1,a2,z1]
   exact qah
  obtain⟨E2,b1,b2⟩:=qbr _ t1 r1 0 w1
  rcases PR.bind_bad hk with h1|⟨x,ts2,he,hk⟩
  ·obtain⟨E,z1⟩:=metP (qjl hB hT1' h1) (.inl rfl) (qaa _ _) (qap _ _)
   refine qao rfl Tryz.func199 rfl (by kernel_rfl) (m:=23) rfl (qaf _ _) ?_;simp only[Z3,simprocAttr,Tryz.f199,effs,pans,qjj,qbb,s0,a1,a2,b1,b2,z1]
   exact qah
  obtain⟨hT2,ge⟩:=qds hR hT1' he
  obtain⟨E3,c1,c2⟩:=ge.m rfl
  obtain⟨t3,r3,rfl,⟨q3,rfl,rfl⟩|⟨_,_,hk⟩⟩:=qa8 hT2 hk
  ·obtain⟨E,z1⟩:=metP (qb8 [59] (by decide) t3 r3 0 q3) (.inl rfl) (qaa _ _) rfl
   have se:∀x0 x1 x2 x3 x4,qar [x0,x1,x2,x3,x4] 0 x.cells=some x.cells:=fun _ _ _ _ _=>x.set0 _ rfl
   refine qao rfl Tryz.func199 rfl (by kernel_rfl) (m:=23) rfl (qaf _ _) ?_;simp only[Z3,simprocAttr,Tryz.f199,effs,pans,qjj,qbb,s0,a1,a2,b1,b2,c1,c2,se,z1]
   exact qah
  ·cases hk
 ·have s0:=qg3 (s:=[40]) (by decide) (Bool.eq_false_iff.2 hp)
  rw[if_neg hp]at h
  rcases PR.bind_bad h with h1|⟨l,ts1,hl,hk⟩
  ·obtain⟨_,_,hc,hx⟩:=qd3 hT h1
   cases hc
   rcases hx with⟨hs,rfl,rfl⟩|⟨_,hx⟩
   ·obtain⟨E,z1⟩:=metP (qmo t r 0 hs) (.inl rfl) (qaa _ _) rfl
    refine qao rfl Tryz.func199 rfl (by kernel_rfl) (m:=23) rfl (qaf _ _) ?_;simp only[Z3,simprocAttr,Tryz.f199,effs,pans,qjj,qbb,s0,z1]
    exact qah
   ·cases hx
  obtain⟨t0,r0,hc,hs,hl⟩:=qbz hl
  injection hc with hc1 hc2
  subst hc1
  subst hc2
  have hT1:=hT.tail (by rw[hs];decide)
  obtain⟨E1,a1,a2⟩:=met (qdy t r 0 hs) rfl (qaa _ _) (qaa _ _) rfl
  cases hl
  obtain⟨t1,r1,rfl,⟨q1,rfl,rfl⟩|⟨w1,hT1',hk⟩⟩:=qa8 hT1 hk
  ·obtain⟨E,z1⟩:=metP (qb8 [61] (by decide) t1 r1 0 q1) (.inl rfl) (qaa _ _) rfl
   refine qao rfl Tryz.func199 rfl (by kernel_rfl) (m:=23) rfl (qaf _ _) ?_;simp only[Z3,simprocAttr,Tryz.f199,effs,pans,qjj,qbb,s0,a1,a2,z1]
   exact qah
  obtain⟨E2,b1,b2⟩:=qbr _ t1 r1 0 w1
  rcases PR.bind_bad hk with h1|⟨x,ts2,he,hk⟩
  ·obtain⟨E,z1⟩:=metP (qjl hB hT1' h1) (.inl rfl) (qaa _ _) (qap _ _)
   refine qao rfl Tryz.func199 rfl (by kernel_rfl) (m:=23) rfl (qaf _ _) ?_;simp only[Z3,simprocAttr,Tryz.f199,effs,pans,qjj,qbb,s0,a1,a2,b1,b2,z1]
   exact qah
  obtain⟨hT2,ge⟩:=qds hR hT1' he
  obtain⟨E3,c1,c2⟩:=ge.m rfl
  obtain⟨t3,r3,rfl,⟨q3,rfl,rfl⟩|⟨_,_,hk⟩⟩:=qa8 hT2 hk
  ·obtain⟨E,z1⟩:=metP (qb8 [59] (by decide) t3 r3 0 q3) (.inl rfl) (qaa _ _) rfl
   have se:∀x0 x1 x2 x3 x4,qar [x0,x1,x2,x3,x4] 0 x.cells=some x.cells:=fun _ _ _ _ _=>x.set0 _ rfl
   refine qao rfl Tryz.func199 rfl (by kernel_rfl) (m:=23) rfl (qaf _ _) ?_;simp only[Z3,simprocAttr,Tryz.f199,effs,pans,qjj,qbb,s0,a1,a2,b1,b2,c1,c2,se,z1]
   exact qah
  ·cases hk
theorem enum_p {m:Nat} {ts ts':List PTok} {e:Int} (hT:TsOk ts) (h:qk1 m ts= .bad e ts'):
 Pans C 77 [.ptr 0 0] [.box (pbox ts 0)] (qa9 e ts'):=by
 unfold qk1 at h
 obtain⟨t,r,rfl,⟨hs,rfl,rfl⟩|⟨hs,k1⟩⟩:=qd3 hT h
 ·obtain⟨E,z1⟩:=metP (qmo t r 0 hs) (.inl rfl) (qaa _ _) rfl
  refine qao rfl Tryz.func77 rfl (by kernel_rfl) (m:=18) rfl (qaf _ _) ?_;simp only[Z3,simprocAttr,Tryz.f77,effs,pans,fx_77,z1]
  exact qah
 have hTr:=hT.tail (by rw[hs];decide)
 obtain⟨E1,a1,a2⟩:=met (qdy t r 0 hs) rfl (qaa _ _) (qaa _ _) rfl
 obtain⟨t1,r1,rfl,⟨s1,rfl,rfl⟩|⟨w1,hT1,k2⟩⟩:=qa8 hTr k1
 ·obtain⟨E,z1⟩:=metP (qb8 [61] (by decide) t1 r1 0 s1) (.inl rfl) (qaa _ _) rfl
  refine qao rfl Tryz.func77 rfl (by kernel_rfl) (m:=18) rfl (qaf _ _) ?_;simp only[Z3,simprocAttr,Tryz.f77,effs,pans,fx_77,a1,a2,z1]
  exact qah
 obtain⟨E2,b1,b2⟩:=qbr _ t1 r1 0 w1
 rcases PR.bind_bad k2 with h1|⟨l,ts1,h1,k3⟩
 ·obtain⟨E,z1⟩:=metP (listS_p (by decide) 0 (fun t r hs=>qfp t r 0 hs) (fun t r hs=>qrv t r 0 hs) [124] (by decide) hT1 h1) (.inr rfl) (qaa _ _) (qap _ _)
  refine qao rfl Tryz.func77 rfl (by kernel_rfl) (m:=18) rfl (qaf _ _) ?_;simp only[Z3,simprocAttr,Tryz.f77,effs,pans,fx_77,a1,a2,b1,b2,z1]
  exact qah
 obtain⟨hTs1,g1⟩:=qut (by decide) 0 (fun t r hs=>qfp t r 0 hs) [124] (by decide) hT1 h1
 obtain⟨E3,c1,c2⟩:=met4 g1 rfl (qaa _ _) (qaa _ _) rfl
 obtain⟨t2,r2,rfl,⟨s2,rfl,rfl⟩|⟨_,_,k3⟩⟩:=qa8 hTs1 k3
 ·obtain⟨E,z1⟩:=metP (qb8 [59] (by decide) t2 r2 0 s2) (.inl rfl) (qaa _ _) rfl
  refine qao rfl Tryz.func77 rfl (by kernel_rfl) (m:=18) rfl (qaf _ _) ?_;simp only[Z3,simprocAttr,Tryz.f77,effs,pans,fx_77,a1,a2,b1,b2,c1,c2,z1]
  exact qah
 ·cases k3
end Go.Ab
namespace Go.Ab
open Go Go.Ab.Tab
theorem state_p1 {R:Rd} (hR:HypE R) (hB:BadE R) (hLen:LenR R) {m:Nat} {t:PTok} {r1 ts':List PTok} {e:Int} (hT1:TsOk r1) {t1:PTok} (hs:t.sort=2) (w1:hasS [58] (t1::r1)=true) (hq:pEqs R m m r1= .bad e ts'):
 Pans C 200 [.ptr 0 0] [.box (pbox (t::t1::r1) 0)] (qa9 e ts'):=by
 have hle:=hT1.le
 obtain⟨E1,a1,a2⟩:=met (qfp t (t1::r1) 0 hs) rfl (qaa _ _) (qaa _ _) rfl
 obtain⟨E2,b1,b2⟩:=qbr _ t1 r1 0 w1
 refine qao rfl Tryz.func200 rfl (by kernel_rfl) (m:=39) rfl (qaf _ _) ?_;simp only[Z3,simprocAttr,Tryz.f200,effs,pans,qc9,a1,a2,b1,b2]
 generalize hb:qam PP cmp0 C lpC _=f;generalize hl:lpC f _=r
 obtain⟨ex,s',rfl,rfl⟩:=qch (α:=StSt) hl [11,12,13,14,15,16,17,18,19] (fun _=>[]) (fun a h=>h[0]? =some (.box (pbox a.ts 0))∧h[1]? =some (.box [.str [],.slice [] .full,.slice [] .full])∧h[2]? =some (.box [.str t.text,a.v,.slice [] .full])∧Grow2 h a.v (a.acc.map PEq.cells) 62∧TsOk a.ts∧a.acc.length+a.ts.length≤65538∧pEqs R m a.n a.ts= .bad e ts') (fun a=>a.n) (fun _=>())
  (fun ts _ ex s=>ex= .pan (qa9 e ts')) ⟨m,[],.slice [] .full,r1⟩ ⟨rfl,rfl,rfl,.inl rfl,hT1,by simp only[wa];omega,hq⟩ (by simp only[AtT,ats]) (by
   rintro⟨n,acc,v,ts⟩ j G dd ⟨q0,q1,q2,gv,hTs,hln,hp⟩
   clear hl;subst hb
   simp only at q0 q1 q2 gv hTs hln hp ⊢
   obtain⟨tk,hv⟩:=gv.val
   subst hv
   obtain⟨tt,rt,rfl⟩:=hTs.ne
   have cb:=qcf (c:=C) (b:=0) (H:=G) (rest:=[]) rfl q0 (qaa _ _) (qrr tt rt 0) rfl
   have d2:=qfq q2
   cases n with
   |zero=>cases hp
   |succ n=>
    simp only[pEqs]at hp
    cases hbg:qdi (tt::rt)
    ·rw[hbg]at hp
     cases hp
    ·rw[hbg]at hp cb
     simp only[if_true]at hp
     rcases PR.bind_bad hp with hq1|⟨q,tsq,hq1,hp⟩
     ·obtain⟨E1,c1⟩:=stpP q0 (peq_p hR hB hTs hq1) (.inl rfl) (qaa _ _) (qap _ _)
      simp only[Z3,simprocAttr,effs,pans,qc9,cb,q2,d2,c1,retp]
      rw[qiq (by kernel_rfl)]
      exact .inr ⟨_,_,rfl,by simp,rfl⟩
     rcases PR.bind_bad hp with hp3|⟨_,_,_,hp⟩
     rotate_left
     ·cases hp
     obtain⟨hTq,gq⟩:=qrs hR hTs hq1
     have hlt:=qp8 hLen hq1
     obtain⟨E1,G1,c1,st1⟩:=stp q0 gq rfl (qaa _ _) (qaa _ _) (by simp only[refs];exact q.norefs)
     have p1:=st1.box 1 _ (by decide) q1
     have p2:=st1.box 2 _ (by decide) q2
     have o1:=st1.of
     have fr:=st1.free (by decide) q2
     obtain⟨tk2,E2,ha,gr⟩:=grw ql7 1 (fs:=[q.cells]) p2 (st1.grow _ _ _ gv) (by simp only[wh,wb,wa]at hln ⊢;unfold qac;omega) (by intro c hc;obtain⟨x,_,rfl⟩:=ww.1 hc;exact x.len) (by intro c hc;simp only[wq,wg,or_false]at hc;subst hc;exact q.len) (by simp)
     have o2:=gr.at1
     have d3:decide (G.length≤G1.length)=true:=decide_eq_true (by rw[st1.len];exact waa _)
     have d4:decide (G.length≤(E2.of G1).length)=true:=decide_eq_true (by rw[←st1.len];exact gr.len)
     simp only[Z3,simprocAttr,effs,qc9,cb,q2,d2,c1,o1,qxm,ha,o2,d3,d4]
     rw[qcr]
     ·refine .inl ⟨⟨n,acc++[q],.slice (acc.map PEq.cells++[q.cells]) tk2,tsq⟩,_,rfl,⟨gr.box 0 _ (by decide) st1.p0,gr.box 1 _ (by decide) p1,gr.at2,?_,hTq,?_,hp3⟩,by simp only[AtT,ats],by simp only[];omega,trivial⟩
      ·rw[wi];exact gr.grow
      ·simp only[w6,wb,wa]at hln hlt ⊢;omega
     ·kernel_rfl
     ·simp only[qaj,qbx,qae,qcp,fr,wk,wv,wo,wc,wd])
 clear hl
 simp only[Z3,simprocAttr,effs,pans,qc9]
 exact qah
end Go.Ab
namespace Go.Ab
open Go Go.Ab.Tab
theorem state_p2 {R:Rd} (hR:HypE R) (hB:BadE R) (hLen:LenR R) {m:Nat} {t:PTok} {r1 ts1 ts':List PTok} {e:Int} (hT1:TsOk r1) {t1:PTok} (hs:t.sort=2) (w1:hasS [58] (t1::r1)=true) {qs:List PEq} (hq:pEqs R m m r1= .ok qs ts1) (hw:qfy R m ts1= .bad e ts'):
 Pans C 200 [.ptr 0 0] [.box (pbox (t::t1::r1) 0)] (qa9 e ts'):=by
 have hle:=hT1.le
 have hTs1:=qyu hR m _ _ _ hT1 hq
 obtain⟨E1,a1,a2⟩:=met (qfp t (t1::r1) 0 hs) rfl (qaa _ _) (qaa _ _) rfl
 obtain⟨E2,b1,b2⟩:=qbr _ t1 r1 0 w1
 refine qao rfl Tryz.func200 rfl (by kernel_rfl) (m:=39) rfl (qaf _ _) ?_;simp only[Z3,simprocAttr,Tryz.f200,effs,pans,qc9,a1,a2,b1,b2]
 generalize hb:qam PP cmp0 C lpC _=f;generalize hl:lpC f _=r
 obtain⟨ex,s',rfl,rfl,h2⟩:=qch (α:=StSt) hl [11,12,13,14,15,16,17,18,19] (fun _=>[]) (fun a h=>h[0]? =some (.box (pbox a.ts 0))∧h[1]? =some (.box [.str [],.slice [] .full,.slice [] .full])∧h[2]? =some (.box [.str t.text,a.v,.slice [] .full])∧Grow2 h a.v (a.acc.map PEq.cells) 62∧TsOk a.ts∧a.acc.length+a.ts.length≤65538∧(pEqs R m a.n a.ts).bind (fun l2 ts2=> .ok (a.acc++l2) ts2)= .ok qs ts1) (fun a=>a.n) (fun _=>())
  (fun ts _ ex s=>ex= .exit 0∧OutT [11,12,13,14,15,16,17,18,19] ts [] (fun h=>h[0]? =some (.box (pbox ts1 0))∧h[1]? =some (.box [.str [],.slice [] .full,.slice [] .full])∧∃tq,h[2]? =some (.box [.str t.text,.slice (qs.map PEq.cells) tq,.slice [] .full])) s) ⟨m,[],.slice [] .full,r1⟩ ⟨rfl,rfl,rfl,.inl rfl,hT1,by simp only[wa];omega,by rw[hq];rfl⟩ (by simp only[AtT,ats]) (by
   rintro⟨n,acc,v,ts⟩ j G dd ⟨q0,q1,q2,gv,hTs,hln,hp⟩
   clear hl;subst hb
   simp only at q0 q1 q2 gv hTs hln hp ⊢
   obtain⟨tk,hv⟩:=gv.val
   subst hv
   obtain⟨tt,rt,rfl⟩:=hTs.ne
   have cb:=qcf (c:=C) (b:=0) (H:=G) (rest:=[]) rfl q0 (qaa _ _) (qrr tt rt 0) rfl
   cases n with
   |zero=>cases hp
   |succ n=>
    simp only[pEqs]at hp
    cases hbg:qdi (tt::rt)
    ·rw[hbg]at hp cb
     simp only[wf,if_false,PR.bind,wu]at hp
     cases hp
     simp only[Z3,simprocAttr,effs,qc9,cb]
     exact .inr ⟨_,_,rfl,by simp,rfl,by simp only[OutT,AtT,ats],q0,q1,tk,q2⟩
    ·rw[hbg]at hp cb
     simp only[if_true]at hp
     obtain⟨l2,ts2',hp1,hp2⟩:=PR.bind_ok hp
     obtain⟨q,tsq,hq1,hp1⟩:=PR.bind_ok hp1
     obtain⟨l3,ts3,hp3,hp1⟩:=PR.bind_ok hp1
     cases hp1
     cases hp2
     obtain⟨hTq,gq⟩:=qrs hR hTs hq1
     have hlt:=qp8 hLen hq1
     obtain⟨E1,G1,c1,st1⟩:=stp q0 gq rfl (qaa _ _) (qaa _ _) (by simp only[refs];exact q.norefs)
     have p1:=st1.box 1 _ (by decide) q1
     have p2:=st1.box 2 _ (by decide) q2
     have o1:=st1.of
     have fr:=st1.free (by decide) q2
     obtain⟨tk2,E2,ha,gr⟩:=grw ql7 1 (fs:=[q.cells]) p2 (st1.grow _ _ _ gv) (by simp only[wh,wb,wa]at hln ⊢;unfold qac;omega) (by intro c hc;obtain⟨x,_,rfl⟩:=ww.1 hc;exact x.len) (by intro c hc;simp only[wq,wg,or_false]at hc;subst hc;exact q.len) (by simp)
     have o2:=gr.at1
     have d2:=qfq q2
     have d3:decide (G.length≤G1.length)=true:=decide_eq_true (by rw[st1.len];exact waa _)
     have d4:decide (G.length≤(E2.of G1).length)=true:=decide_eq_true (by rw[←st1.len];exact gr.len)
     simp only[Z3,simprocAttr,effs,qc9,cb,q2,d2,c1,o1,qxm,ha,o2,d3,d4]
     rw[qcr]
     ·refine .inl ⟨⟨n,acc++[q],.slice (acc.map PEq.cells++[q.cells]) tk2,tsq⟩,_,rfl,⟨gr.box 0 _ (by decide) st1.p0,gr.box 1 _ (by decide) p1,gr.at2,?_,hTq,?_,?_⟩,by simp only[AtT,ats],by simp only[];omega,trivial⟩
      ·rw[wi];exact gr.grow
      ·simp only[w6,wb,wa]at hln hlt ⊢;omega
      ·simp only[hp3,PR.bind,wm,List.singleton_append]
     ·kernel_rfl
     ·simp only[qaj,qbx,qae,qcp,fr,wk,wv,wo,wc,wd])
 obtain⟨j,H,dd,hI,rfl⟩:=h2.elim
 clear hl
 have i0:=hI.1
 have i1:=hI.2.1
 obtain⟨tq,i2⟩:=hI.2.2
 clear hI h2
 simp only[Z3,simprocAttr,effs,qc9]
 generalize hb:qam PP cmp0 C lpC _=f;generalize hl:lpC f _=r
 obtain⟨ex,s',rfl,rfl⟩:=qch (α:=WySt) hl [4,20,21,22,23,24,25,26,27,28,29,30,31,32,33,34,35,36,37,38] (fun _=>[]) (fun a h=>h[0]? =some (.box (pbox a.ts 0))∧h[1]? =some (.box [.str [],.slice [] .full,.slice [] .full])∧h[2]? =some (.box [.str t.text,.slice (qs.map PEq.cells) tq,a.v])∧Grow2 h a.v (a.acc.map PWay.cells) 142∧TsOk a.ts∧a.acc.length+a.ts.length≤65538∧qfy R a.n a.ts= .bad e ts') (fun a=>a.n) (fun _=>())
  (fun ts _ ex s=>ex= .pan (qa9 e ts')) ⟨m,[],.slice [] .full,ts1⟩ ⟨i0,i1,i2,.inl rfl,hTs1,by simp only[wa];have:=hTs1.le;omega,hw⟩ (by simp only[AtT,ats]) (by
   rintro⟨n,acc,v,ts⟩ j G dd ⟨q0,q1,q2,gv,hTs,hln,hp⟩
   clear hl;subst hb
   simp only at q0 q1 q2 gv hTs hln hp ⊢
   obtain⟨tk,hv⟩:=gv.val
   subst hv
   obtain⟨tt,rt,rfl⟩:=hTs.ne
   cases n with
   |zero=>cases hp
   |succ n=>
    simp only[qfy]at hp
    cases hh:hasS [117,110,116,105,108] (tt::rt)
    ·rw[hh]at hp
     cases hp
    ·rw[hh]at hp
     simp only[if_true,wj]at hp
     obtain⟨_,_,hc,hTr,_,_⟩:=hTs.hasS hh
     cases hc
     obtain⟨E1,G1,c1,s1⟩:=stp q0 (qem [117,110,116,105,108] tt rt 0 hh) rfl (qaa _ _) (qaa _ _) rfl
     have o1:=s1.of
     rcases PR.bind_bad hp with he|⟨e,tse,he,k1⟩
     ·obtain⟨E2,c2⟩:=stpP s1.p0 (qjl hB hTr he) (.inl rfl) (qaa _ _) (qap _ _)
      simp only[Z3,simprocAttr,effs,pans,qc9,c1,o1,c2]
      exact .inr ⟨_,_,rfl,by simp,rfl⟩
     obtain⟨hTe,ge⟩:=qds hR hTr he
     have hel:=hLen _ _ _ _ _ he
     obtain⟨E2,G2,c2,s2⟩:=stp s1.p0 ge rfl (qaa _ _) (qaa _ _) (by simp only[refs];exact e.norefs)
     have o2:=s2.of
     have se:∀x0 x1 x2 x3 x4:AVal,qar [x0,x1,x2,x3,x4] 0 e.cells=some e.cells:=fun _ _ _ _ _=>e.set0 _ rfl
     obtain⟨G3,hG3⟩:∃G3,G3=G2++[Blk.box e.cells]:=⟨_,rfl⟩
     have hb3:∀(k:Nat) (cs:List AVal),G2[k]? =some (Blk.box cs)→G3[k]? =some (Blk.box cs):=fun k cs h=>by rw[hG3];exact Boxes.app _ _ _ _ h
     have he3:G3[G2.length]? =some (.box e.cells):=by rw[hG3];simp
     have hk0:G2.length≠0:=fun h=>by have:=(we.1 s2.p0).1;omega
     obtain⟨t1,r1,hc,hx⟩:=qa8 hTe k1
     subst hc
     rcases hx with⟨x1,rfl,rfl⟩|⟨w1,hT1,k2⟩
     ·obtain⟨E3,c3⟩:=stpP (hb3 _ _ s2.p0) (qb8 [116,104,101,110] (by decide) t1 r1 0 x1) (.inl rfl) (qaa _ _) rfl
      simp only[Z3,simprocAttr,effs,pans,qc9,c1,o1,c2,o2,se,←hG3,c3]
      exact .inr ⟨_,_,rfl,by simp,rfl⟩
     obtain⟨E3,G4,c3,s3⟩:=stp (hb3 _ _ s2.p0) (qhg [116,104,101,110] t1 r1 0 w1) rfl (qaa _ _) (qaa _ _) rfl
     have o3:=s3.of
     have y4:=s3.box 2 _ (by decide) (hb3 2 _ (s2.box 2 _ (by decide) (s1.box 2 _ (by decide) q2)))
     have k4:=s3.box _ _ hk0 he3
     have d2:=qfq y4
     have dk:=qfq k4
     obtain⟨t2,r2,hc,hx⟩:=qd3 hT1 k2
     subst hc
     rcases hx with⟨hs2,rfl,rfl⟩|⟨hs2,k3⟩
     ·obtain⟨E4,c4⟩:=stpP s3.p0 (qrv t2 r2 0 hs2) (.inl rfl) (qaa _ _) rfl
      simp only[Z3,simprocAttr,effs,pans,qc9,c1,o1,c2,o2,se,←hG3,c3,o3,y4,k4,d2,dk,c4,retp]
      rw[qiq (by kernel_rfl)]
      exact .inr ⟨_,_,rfl,by simp,rfl⟩
     have hT2:=hT1.tail (by rw[hs2];decide)
     obtain⟨E4,G5,c4,s4⟩:=stp s3.p0 (qfp t2 r2 0 hs2) rfl (qaa _ _) (qaa _ _) rfl
     have o4:=s4.of
     have b1:=s1.box 2 _ (by decide) q2
     have b2:=s2.box 2 _ (by decide) b1
     have b3:=hb3 2 _ b2
     have b4:=s3.box 2 _ (by decide) b3
     have b5:=s4.box 2 _ (by decide) b4
     have k4:=s3.box _ _ hk0 he3
     have z5:=s4.box 1 _ (by decide) (s3.box 1 _ (by decide) (hb3 1 _ (s2.box 1 _ (by decide) (s1.box 1 _ (by decide) q1))))
     have gv5:=s4.grow _ _ _ (s3.grow _ _ _ (hG3▸(s2.grow _ _ _ (s1.grow _ _ _ gv)).box [Blk.box e.cells]))
     have f2:=s4.free (by decide) b4
     have fk:=s4.free (Nat.pos_of_ne_zero hk0) k4
     obtain⟨tk2,E5,ha,gr⟩:=grw qm2 2 (fs:=[PWay.cells ⟨e,t2.text⟩]) b5 gv5 (by simp only[wh,wb,wa]at hln ⊢;unfold qac;omega) (by intro c hc;obtain⟨x,_,rfl⟩:=ww.1 hc;exact x.len) (by intro c hc;simp only[wq,wg,or_false]at hc;subst hc;exact PWay.len _) (by simp)
     obtain⟨G6,hG6⟩:∃G6,G6=(E5.of G5).set 2 (.box ([AVal.str t.text,.slice (qs.map PEq.cells) tq,.slice (acc.map PWay.cells) tk].set 2 (.slice (acc.map PWay.cells++[PWay.cells ⟨e,t2.text⟩]) tk2))):=⟨_,rfl⟩
     rw[←hG6]at gr
     have g6:(E5.of G5).set 2 (.box [AVal.str t.text,.slice (qs.map PEq.cells) tq,.slice (acc.map PWay.cells++[PWay.cells ⟨e,t2.text⟩]) tk2])=G6:=by rw[hG6];rfl
     have sw:qar (e.cells++[AVal.str []]) 5 [.str t2.text]=some (PWay.cells ⟨e,t2.text⟩):=by show _=some (e.cells++_);rw[e.cells_eq];rfl
     have o5:=gr.at1
     have d3:decide (G4.length≤G5.length)=true:=decide_eq_true (by rw[s4.len];exact waa _)
     have d4:decide (G4.length≤(E5.of G5).length)=true:=decide_eq_true (by rw[←s4.len];exact gr.len)
     obtain⟨t3,r3,hc,hx⟩:=qa8 hT2 k3
     subst hc
     rcases hx with⟨x3,rfl,rfl⟩|⟨w3,hT3,k5⟩
     ·obtain⟨E6,c6⟩:=stpP (gr.box 0 _ (by decide) s4.p0) (qb8 [59] (by decide) t3 r3 0 x3) (.inl rfl) (qaa _ _) rfl
      simp only[Z3,simprocAttr,effs,pans,qc9,c1,o1,c2,o2,se,sw,←hG3,c3,o3,b4,k4,d2,dk,c4,o4,quj,ha,o5,d3,d4,g6,c6]
      rw[qcr]
      ·simp only[Z3,simprocAttr,effs,pans,qc9,c6]
       exact .inr ⟨_,_,rfl,by simp,rfl⟩
      ·kernel_rfl
      ·simp only[qaj,qbx,qae,qcp,f2,fk,wk,wv,wo,wc,wd]
     rcases PR.bind_bad k5 with hp3|⟨_,_,_,k5⟩
     rotate_left
     ·cases k5
     obtain⟨E6,G7,c6,s6⟩:=stp (gr.box 0 _ (by decide) s4.p0) (qhg [59] t3 r3 0 w3) rfl (qaa _ _) (qaa _ _) rfl
     have o6:=s6.of
     simp only[Z3,simprocAttr,effs,qc9,c1,o1,c2,o2,se,sw,←hG3,c3,o3,b4,k4,d2,dk,c4,o4,quj,ha,o5,d3,d4,g6,c6,o6]
     rw[qcr]
     ·simp only[Z3,simprocAttr,effs,qc9,c6,o6]
      refine .inl ⟨⟨n,acc++[⟨e,t2.text⟩],.slice (acc.map PWay.cells++[PWay.cells ⟨e,t2.text⟩]) tk2,r3⟩,_,rfl,⟨s6.p0,s6.box 1 _ (by decide) (gr.box 1 _ (by decide) z5),s6.box 2 _ (by decide) gr.at2,?_,hT3,?_,hp3⟩,by simp only[AtT,ats],by simp only[];omega,trivial⟩
      ·rw[wi];exact s6.grow _ _ _ gr.grow
      ·simp only[w6,wb,wa]at hln hel ⊢;omega
     ·kernel_rfl
     ·simp only[qaj,qbx,qae,qcp,f2,fk,wk,wv,wo,wc,wd])
 clear hl
 simp only[Z3,simprocAttr,effs,pans,qc9]
 exact qah
theorem state_p {R:Rd} (hR:HypE R) (hB:BadE R) (hLen:LenR R) {m:Nat} {ts ts':List PTok} {e:Int} (hT:TsOk ts) (h:qhf m R ts= .bad e ts'):
 Pans C 200 [.ptr 0 0] [.box (pbox ts 0)] (qa9 e ts'):=by
 unfold qhf at h
 obtain⟨t,r,rfl,⟨hs,rfl,rfl⟩|⟨hs,h⟩⟩:=qd3 hT h
 ·obtain⟨E,z1⟩:=metP (qrv t r 0 hs) (.inl rfl) (qaa _ _) rfl
  refine qao rfl Tryz.func200 rfl (by kernel_rfl) (m:=39) rfl (qaf _ _) ?_;simp only[Z3,simprocAttr,Tryz.f200,effs,pans,qc9,z1]
  exact qah
 have hTr:=hT.tail (by rw[hs];decide)
 obtain⟨t1,r1,rfl,⟨s1,rfl,rfl⟩|⟨w1,hT1,h⟩⟩:=qa8 hTr h
 ·obtain⟨E1,a1,a2⟩:=met (qfp t (t1::r1) 0 hs) rfl (qaa _ _) (qaa _ _) rfl
  obtain⟨E,z1⟩:=metP (qb8 [58] (by decide) t1 r1 0 s1) (.inl rfl) (qaa _ _) rfl
  refine qao rfl Tryz.func200 rfl (by kernel_rfl) (m:=39) rfl (qaf _ _) ?_;simp only[Z3,simprocAttr,Tryz.f200,effs,pans,qc9,a1,a2,z1]
  exact qah
 rcases PR.bind_bad h with hq|⟨qs,ts1,hq,h⟩
 ·exact state_p1 hR hB hLen hT1 hs w1 hq
 rcases PR.bind_bad h with hw|⟨_,_,_,h⟩
 ·exact state_p2 hR hB hLen hT1 hs w1 hq hw
 ·cases h
end Go.Ab
