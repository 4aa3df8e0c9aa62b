/- The parser: merge and match. -/
import Derived.Test.YtngklkmeknmloaaGreatDoorAbPs2
set_option linter.unusedSimpArgs false
set_option linter.unusedVariables false
set_option maxRecDepth 100000
set_option maxHeartbeats 4000000
open Go.Proofs
open List renaming getElem?_eq_some_iff→wa,getElem?_set_ne→wb,getElem?_set_self→wc,tail_cons→wd,length_cons→we,nil_append→wf,append_assoc→wg,cons_append→wh,getElem?_eq_none→wj,length_nil→wk,take_succ_eq_append_getElem→wm,getD_eq_getElem?_getD→wo,not_mem_nil→wq,append_nil→wt,mem_cons→wu,mem_map→wv,ext_getElem?→ww,length_tail→wz,length_map→w6,map_append→w7,map_map→waa
open Bool renaming false_eq_true→wi
open Nat renaming lt_one_iff→w8,lt_or_ge→w9
namespace Go.Ab
open Go Go.Ab.Tab
theorem qv5:∀(n:Nat) (e0 e:PExpr) (ts ts':List PTok),TsOk ts→qdz n e0 ts= .ok e ts'→TsOk ts'
 |0,_,_,_,_,_,h=>by cases h
 |n+1,e0,e,ts,ts',hT,h=>by
  simp only[qdz]at h
  split at h
  ·rename_i hh
   obtain⟨t,r,rfl,hTr,_,_⟩:=hT.hasS hh
   obtain⟨t1,r1,q1,s1,h1⟩:=qbz h
   simp only[wd]at q1
   subst q1
   have hT1:=hTr.tail (by rw[s1];decide)
   obtain⟨w1,h2⟩:=qa5 h1
   obtain⟨t2,r2,rfl,hT2,_,_⟩:=hT1.hasS w1
   obtain⟨t3,r3,q3,s3,h3⟩:=qbz h2
   simp only[wd]at q3
   subst q3
   have hT3:=hT2.tail (by rw[s3];decide)
   obtain⟨w2,h4⟩:=qa5 h3
   obtain⟨t4,r4,rfl,hT4,_,_⟩:=hT3.hasS w2
   exact qv5 n _ _ _ _ hT4 h4
  ·cases h;exact hT
structure WhSt where
 n:Nat
 left:PExpr
 tk:Tk
 ts:List PTok
theorem sampled_c {m:Nat} {R:Rd} (hR:HypE R) (hLen:LenR R) {d:Nat} (hA:HypA m R d) {ts ts':List PTok} {e:PExpr} (hT:TsOk ts) (h:qd2 m R d ts= .ok e ts'):
 TsOk ts'∧RdE 247 [] ts d e ts':=by
 unfold qd2 at h
 obtain⟨a,ts1,ha,h⟩:=PR.bind_ok h
 obtain⟨hT1,ga⟩:=atom_c hR hLen hA hT ha
 obtain⟨b,ts2,hbb,h⟩:=PR.bind_ok h
 obtain⟨E,e1,e2⟩:=ga.m rfl
 rw[a.cells_eq,show qag a.cons= .slice (a.cons.map fun s=>[.str s]) .free from rfl]at e1
 obtain⟨t1,r1,rfl⟩:=hT1.ne
 unfold RdE
 cases hev:(a.op==14 && hasS [101,118,101,114,121] (t1::r1))
 ·rw[hev]at hbb
  simp only[wi,if_false]at hbb
  cases hbb
  refine⟨qv5 _ _ _ _ _ hT1 h,?_⟩
  cases k14:(a.op==14)
  ·refine qa6 rfl Tryz.func247 rfl (by kernel_rfl) (m:=38) rfl ?_;simp only[Z3,simprocAttr,Tryz.f247,qb3,effs,e1,e2,k14]
   generalize hb:qam PP cmp0 C lpC _=f;generalize hl:lpC f _=r
   obtain⟨ex,s',rfl,⟨rfl,tk',h2⟩⟩:=qes (α:=WhSt) hl [4,5,20,21,22,23,24,25,26,27,28,29,30,31,32,33,34,35,36,37] (fun _=>[]) (fun a=>[.box (pbox a.ts d),.box qax,.box (a.left.cellsT a.tk)]) (fun a=>TsOk a.ts∧qdz a.n a.left a.ts= .ok e ts') (fun a=>a.n) (fun _=>())
    (fun ts _ ex s=>ex= .exit 0∧∃tk,At [4,5,20,21,22,23,24,25,26,27,28,29,30,31,32,33,34,35,36,37] ts [.box (pbox ts' d),.box qax,.box (e.cellsT tk)] [] s) ⟨m,a,.free,t1::r1⟩ ⟨hT1,h⟩ (At.of [] (by simp only[ats]<;>rfl) (by simp only[wt]<;>first|rfl|(rw[PExpr.cells_eq];rfl))) (by
     rintro⟨n,left,tk,ts⟩ j H dd ⟨hTs,hp⟩
     clear hl;subst hb
     simp only at hTs hp ⊢
     cases n with
     |zero=>cases hp
     |succ n=>
      obtain⟨t,r,rfl⟩:=hTs.ne
      simp only[qdz]at hp
      cases hh:hasS [119,104,101,110] (t::r)
      ·rw[hh]at hp
       simp only[wi,if_false]at hp
       cases hp
       have c1:=qev [119,104,101,110] (by decide) t r d hh
       simp only[Z3,simprocAttr,effs,qb3,PExpr.cellsT,qax,c1]
       exact .inr ⟨_,_,rfl,by simp,rfl,tk,At.of _ (by simp only[ats]<;>rfl) (by simp only[wh,wg,wf]<;>rfl)⟩
      ·rw[hh]at hp
       simp only[if_true]at hp
       obtain⟨_,_,hc,hTr,_,_⟩:=hTs.hasS hh
       cases hc
       obtain⟨t1,r1,q1,s1,g1⟩:=qbz hp
       simp only[wd]at q1
       subst q1
       have hT1:=hTr.tail (by rw[s1];decide)
       obtain⟨w1,g2⟩:=qa5 g1
       obtain⟨t2,r2,rfl,hT2,_,_⟩:=hT1.hasS w1
       obtain⟨t3,r3,q3,s3,g3⟩:=qbz g2
       simp only[wd]at q3
       subst q3
       have hT3:=hT2.tail (by rw[s3];decide)
       obtain⟨w2,g4⟩:=qa5 g3
       obtain⟨t4,r4,rfl,hT4,_,_⟩:=hT3.hasS w2
       obtain⟨V1,a1,a2⟩:=qda _ t (t1::t2::t3::t4::r4) d hh
       obtain⟨V2,b1,b2⟩:=met (qfp t1 (t2::t3::t4::r4) d s1) rfl (qaa _ _) (qaa _ _) rfl
       obtain⟨V3,c1,c2⟩:=qbr _ t2 (t3::t4::r4) d w1
       obtain⟨V4,d1,d2⟩:=met (qdy t3 (t4::r4) d s3) rfl (qaa _ _) (qaa _ _) rfl
       obtain⟨V5,f1,f2⟩:=qbr _ t4 r4 d w2
       simp only[Z3,simprocAttr,effs,qb3,PExpr.cellsT,qax,a1,a2,b1,b2,c1,c2,d1,d2,f1,f2]
       exact .inl ⟨⟨n,qk0 t3.text t1.text left,.full,r4⟩,_,rfl,⟨hT4,g4⟩,At.of _ (by simp only[ats]<;>rfl) (by simp only[wh,wg,wf];rw[show[AVal.int .i64 left.op,.str left.name,.int .i64 left.n,.slice (left.cons.map fun s=>[.str s]) .free,.slice (left.kids.map PExpr.cells) .free]=left.cells from left.cells_eq.symm];rfl),by simp only[];omega,trivial⟩)
   obtain⟨j,H,dd,rfl⟩:=h2.elim
   clear hl
   simp only[Z3,simprocAttr,effs,qb3]
   exact qe1 (ts:=ts') (d:=d) (.inl rfl) rfl rfl (qk5 e tk') rfl rfl
  ·have k2:hasS [101,118,101,114,121] (t1::r1)=false:=by rw[k14]at hev;simpa using hev
   have c0:=qev [101,118,101,114,121] (by decide) t1 r1 d k2
   refine qa6 rfl Tryz.func247 rfl (by kernel_rfl) (m:=38) rfl ?_;simp only[Z3,simprocAttr,Tryz.f247,qb3,effs,e1,e2,k14,c0]
   generalize hb:qam PP cmp0 C lpC _=f;generalize hl:lpC f _=r
   obtain⟨ex,s',rfl,⟨rfl,tk',h2⟩⟩:=qes (α:=WhSt) hl [4,5,20,21,22,23,24,25,26,27,28,29,30,31,32,33,34,35,36,37] (fun _=>[]) (fun a=>[.box (pbox a.ts d),.box qax,.box (a.left.cellsT a.tk)]) (fun a=>TsOk a.ts∧qdz a.n a.left a.ts= .ok e ts') (fun a=>a.n) (fun _=>())
    (fun ts _ ex s=>ex= .exit 0∧∃tk,At [4,5,20,21,22,23,24,25,26,27,28,29,30,31,32,33,34,35,36,37] ts [.box (pbox ts' d),.box qax,.box (e.cellsT tk)] [] s) ⟨m,a,.free,t1::r1⟩ ⟨hT1,h⟩ (At.of [] (by simp only[ats]<;>rfl) (by simp only[wt]<;>first|rfl|(rw[PExpr.cells_eq];rfl))) (by
     rintro⟨n,left,tk,ts⟩ j H dd ⟨hTs,hp⟩
     clear hl;subst hb
     simp only at hTs hp ⊢
     cases n with
     |zero=>cases hp
     |succ n=>
      obtain⟨t,r,rfl⟩:=hTs.ne
      simp only[qdz]at hp
      cases hh:hasS [119,104,101,110] (t::r)
      ·rw[hh]at hp
       simp only[wi,if_false]at hp
       cases hp
       have c1:=qev [119,104,101,110] (by decide) t r d hh
       simp only[Z3,simprocAttr,effs,qb3,PExpr.cellsT,qax,c1]
       exact .inr ⟨_,_,rfl,by simp,rfl,tk,At.of _ (by simp only[ats]<;>rfl) (by simp only[wh,wg,wf]<;>rfl)⟩
      ·rw[hh]at hp
       simp only[if_true]at hp
       obtain⟨_,_,hc,hTr,_,_⟩:=hTs.hasS hh
       cases hc
       obtain⟨t1,r1,q1,s1,g1⟩:=qbz hp
       simp only[wd]at q1
       subst q1
       have hT1:=hTr.tail (by rw[s1];decide)
       obtain⟨w1,g2⟩:=qa5 g1
       obtain⟨t2,r2,rfl,hT2,_,_⟩:=hT1.hasS w1
       obtain⟨t3,r3,q3,s3,g3⟩:=qbz g2
       simp only[wd]at q3
       subst q3
       have hT3:=hT2.tail (by rw[s3];decide)
       obtain⟨w2,g4⟩:=qa5 g3
       obtain⟨t4,r4,rfl,hT4,_,_⟩:=hT3.hasS w2
       obtain⟨V1,a1,a2⟩:=qda _ t (t1::t2::t3::t4::r4) d hh
       obtain⟨V2,b1,b2⟩:=met (qfp t1 (t2::t3::t4::r4) d s1) rfl (qaa _ _) (qaa _ _) rfl
       obtain⟨V3,c1,c2⟩:=qbr _ t2 (t3::t4::r4) d w1
       obtain⟨V4,d1,d2⟩:=met (qdy t3 (t4::r4) d s3) rfl (qaa _ _) (qaa _ _) rfl
       obtain⟨V5,f1,f2⟩:=qbr _ t4 r4 d w2
       simp only[Z3,simprocAttr,effs,qb3,PExpr.cellsT,qax,a1,a2,b1,b2,c1,c2,d1,d2,f1,f2]
       exact .inl ⟨⟨n,qk0 t3.text t1.text left,.full,r4⟩,_,rfl,⟨hT4,g4⟩,At.of _ (by simp only[ats]<;>rfl) (by simp only[wh,wg,wf];rw[show[AVal.int .i64 left.op,.str left.name,.int .i64 left.n,.slice (left.cons.map fun s=>[.str s]) .free,.slice (left.kids.map PExpr.cells) .free]=left.cells from left.cells_eq.symm];rfl),by simp only[];omega,trivial⟩)
   obtain⟨j,H,dd,rfl⟩:=h2.elim
   clear hl
   simp only[Z3,simprocAttr,effs,qb3]
   exact qe1 (ts:=ts') (d:=d) (.inl rfl) rfl rfl (qk5 e tk') rfl rfl
 ·rw[hev]at hbb
  simp only[if_true,wd]at hbb
  simp only[Bool.and_eq_true]at hev
  obtain⟨_,_,hc,hTr,_,_⟩:=hT1.hasS hev.2
  cases hc
  obtain⟨k,ts3,hk,hbb⟩:=PR.bind_ok hbb
  cases hbb
  obtain⟨hT3,gk,_⟩:=hR _ _ _ _ _ hTr hk
  refine⟨qv5 _ _ _ _ _ hT3 h,?_⟩
  obtain⟨V,v1,v2⟩:=qda _ t1 r1 d hev.2
  obtain⟨K,y1,y2,y3⟩:=(gk rfl).m3 rfl
  have k14:=hev.1
  refine qa6 rfl Tryz.func247 rfl (by kernel_rfl) (m:=38) rfl ?_;simp only[Z3,simprocAttr,Tryz.f247,qb3,effs,e1,e2,k14,v1,v2,y1,y2,qgd,qen,qmc _ _ _ _]
  rw[qcr]
  ·simp only[Z3,simprocAttr,effs,qb3,y2,qgd,qen,qmc _ _ _ _]
   generalize hb:qam PP cmp0 C lpC _=f;generalize hl:lpC f _=r
   obtain⟨ex,s',rfl,⟨rfl,tk',h2⟩⟩:=qes (α:=WhSt) hl [4,5,20,21,22,23,24,25,26,27,28,29,30,31,32,33,34,35,36,37] (fun _=>[]) (fun a=>[.box (pbox a.ts d),.box qax,.box (a.left.cellsT a.tk)]) (fun a=>TsOk a.ts∧qdz a.n a.left a.ts= .ok e ts') (fun a=>a.n) (fun _=>())
    (fun ts _ ex s=>ex= .exit 0∧∃tk,At [4,5,20,21,22,23,24,25,26,27,28,29,30,31,32,33,34,35,36,37] ts [.box (pbox ts' d),.box qax,.box (e.cellsT tk)] [] s) ⟨m,qn0 a k,.free,ts2⟩ ⟨hT3,h⟩ (At.of [] (by simp only[ats]<;>rfl) (by simp only[wt]<;>first|rfl|(rw[PExpr.cells_eq];rfl))) (by
     rintro⟨n,left,tk,ts⟩ j H dd ⟨hTs,hp⟩
     clear hl;subst hb
     simp only at hTs hp ⊢
     cases n with
     |zero=>cases hp
     |succ n=>
      obtain⟨t,r,rfl⟩:=hTs.ne
      simp only[qdz]at hp
      cases hh:hasS [119,104,101,110] (t::r)
      ·rw[hh]at hp
       simp only[wi,if_false]at hp
       cases hp
       have c1:=qev [119,104,101,110] (by decide) t r d hh
       simp only[Z3,simprocAttr,effs,qb3,PExpr.cellsT,qax,c1]
       exact .inr ⟨_,_,rfl,by simp,rfl,tk,At.of _ (by simp only[ats]<;>rfl) (by simp only[wh,wg,wf]<;>rfl)⟩
      ·rw[hh]at hp
       simp only[if_true]at hp
       obtain⟨_,_,hc,hTr,_,_⟩:=hTs.hasS hh
       cases hc
       obtain⟨t1,r1,q1,s1,g1⟩:=qbz hp
       simp only[wd]at q1
       subst q1
       have hT1:=hTr.tail (by rw[s1];decide)
       obtain⟨w1,g2⟩:=qa5 g1
       obtain⟨t2,r2,rfl,hT2,_,_⟩:=hT1.hasS w1
       obtain⟨t3,r3,q3,s3,g3⟩:=qbz g2
       simp only[wd]at q3
       subst q3
       have hT3:=hT2.tail (by rw[s3];decide)
       obtain⟨w2,g4⟩:=qa5 g3
       obtain⟨t4,r4,rfl,hT4,_,_⟩:=hT3.hasS w2
       obtain⟨V1,a1,a2⟩:=qda _ t (t1::t2::t3::t4::r4) d hh
       obtain⟨V2,b1,b2⟩:=met (qfp t1 (t2::t3::t4::r4) d s1) rfl (qaa _ _) (qaa _ _) rfl
       obtain⟨V3,c1,c2⟩:=qbr _ t2 (t3::t4::r4) d w1
       obtain⟨V4,d1,d2⟩:=met (qdy t3 (t4::r4) d s3) rfl (qaa _ _) (qaa _ _) rfl
       obtain⟨V5,f1,f2⟩:=qbr _ t4 r4 d w2
       simp only[Z3,simprocAttr,effs,qb3,PExpr.cellsT,qax,a1,a2,b1,b2,c1,c2,d1,d2,f1,f2]
       exact .inl ⟨⟨n,qk0 t3.text t1.text left,.full,r4⟩,_,rfl,⟨hT4,g4⟩,At.of _ (by simp only[ats]<;>rfl) (by simp only[wh,wg,wf];rw[show[AVal.int .i64 left.op,.str left.name,.int .i64 left.n,.slice (left.cons.map fun s=>[.str s]) .free,.slice (left.kids.map PExpr.cells) .free]=left.cells from left.cells_eq.symm];rfl),by simp only[];omega,trivial⟩)
   obtain⟨j,H,dd,rfl⟩:=h2.elim
   clear hl
   simp only[Z3,simprocAttr,effs,qb3]
   exact qe1 (ts:=ts') (d:=d) (.inl rfl) rfl rfl (qk5 e tk') rfl rfl
  ·kernel_rfl
  ·have z2:=y3 [Blk.box qax,Blk.box (a.cellsT .free)] 2 (by omega) (by simp)
   unfold qax PExpr.cellsT at z2
   simp only[qaj,qbx,qae,qcp,z2,Bool.not_false,Bool.or_true,Bool.and_true,List.getElem?_cons_succ,List.getElem?_cons_zero]
end Go.Ab
namespace Go.Ab
open Go Go.Ab.Tab
theorem met1 {f:FuncId} {rest:List AVal} {x y:List AVal} {v:AVal} (g:qbi C f (.ptr 0 0::rest) [.box x] v [.box y]) (hr:qad rest=[]) (px:qad x=[]) (py:qad y=[]) (hv:refs v=[]):
 ∃E:Blk→qab→Eff,(∀a H,qai C (a:: .box x::H) f (.ptr 1 0::rest)=some (.ret v (E a H)))∧∀a H,(E a H).of (a:: .box x::H)=a:: .box y::H:=by
 have h:∀a H,∃E:Eff,qai C (a:: .box x::H) f (.ptr 1 0::rest)=some (.ret v E)∧E.of (a:: .box x::H)=a:: .box y::H:=fun a H=>qed qaw (b:=1) (H:=a:: .box x::H) hr rfl px py g hv
 exact⟨fun a H=>(h a H).choose,fun a H=>(h a H).choose_spec.1,fun a H=>(h a H).choose_spec.2⟩
def armC (c:Str) (e:PExpr):List AVal:= .str c::e.cells
theorem qmk (c:Str) (e:PExpr):qad (armC c e)=[]:=by
 unfold armC;simp only[qad,refs,e.norefs,wf]
theorem qv6 (c:Str) (e:PExpr):(armC c e).length=6:=by unfold armC;simp[e.len]
theorem res_a {s:St} {k b:Nat} {cs:List AVal} (h1:s.tmps[k]? =some (.ptr b 0)) (h2:s.heap[b]? =some (.box cs)) (h3:cs.length=6):resA PP [.cell k 290] s=some [.agg cs]:=by
 simp only[resA,h1,qfe,h2,qek,qxb,qs2,List.drop_zero]
 rw[List.take_of_length_le (by omega),if_pos h3]
theorem q1y (n:Nat) (H:qab) (b p:Nat) (hb:H[b]? =some (.box [.ptr p 0])) (hp:p<n):qih n H b:=by
 refine⟨_,hb,fun mv=> ?_⟩
 unfold qg5
 rw[hb]
 simp[qd0,lowA,refs,hp]
theorem arm_c {R:Rd} (hR:HypE R) {d:Nat} {t t1:PTok} {r1 ts':List PTok} {e:PExpr} (hs:t.sort=2) (hw:hasS [45,62] (t1::r1)=true) (hT:TsOk r1) (h:R d 1 r1= .ok e ts'):
 TsOk ts'∧qbi C 299 [.ptr 0 0] [.box [.ptr 1 0],.box (pbox (t::t1::r1) d)] (.agg (armC t.text e)) [.box [.ptr 1 0],.box (pbox ts' d)]:=by
 obtain⟨hT',ge⟩:=qds hR hT h
 refine⟨hT',?_⟩
 obtain⟨E1,a1,a2⟩:=met1 (qfp t (t1::r1) d hs) rfl (qaa _ _) (qaa _ _) rfl
 obtain⟨E2,b1,b2⟩:=met1 (qhg _ t1 r1 d hw) rfl (qaa _ _) (qaa _ _) rfl
 obtain⟨E3,c1,c2⟩:=met1 ge rfl (qaa _ _) (qaa _ _) (by simp only[refs];exact e.norefs)
 rw[e.cells_eq,show qag e.cons= .slice (e.cons.map fun s=>[.str s]) .free from rfl]at c1
 refine qa6 rfl Tryz.func299 rfl (by kernel_rfl) (m:=11) rfl ?_;simp only[Z3,simprocAttr,Tryz.f299,qxl,effs,a1,a2,b1,b2,c1,c2]
 exact qcy (.inl rfl) (res_a rfl rfl rfl) (by show AVal.agg (List.map qbj _)=_;unfold armC;rw[e.cells_eq];rfl) (by simp only[lowA,refs,qmk];rfl) (fun b hb=>by
  rcases w9 b 1 with h0|h0
  ·obtain rfl:b=0:=w8.1 h0
   exact q1y _ _ 0 1 rfl (by decide)
  ·obtain rfl:b=1:=by omega
   exact qeu _ _ ts' d _ rfl) rfl
end Go.Ab
namespace Go.Ab
open Go Go.Ab.Tab
theorem take2 {H:qab} {x y:Blk} (h:H[0]? =some x) (k:H[1]? =some y):H.take 2=[x,y]:=by
 cases H with
 |nil=>cases h
 |cons a b=>
  cases b with
  |nil=>simp at k
  |cons b c=>simp at h k;simp[h,k]
theorem armX (c:Str) (e:PExpr):armC c e=[.str c,.int .i64 e.op,.str e.name,.int .i64 e.n,.slice (e.cons.map fun s=>[.str s]) .free,.slice (e.kids.map PExpr.cells) .free]:=by
 unfold armC;rw[e.cells_eq];rfl
theorem arms6 (l:List (Str×PExpr)):∀c∈l.map (fun x=>armC x.1 x.2),c.length=6:=by
 intro c hc;obtain⟨s,_,rfl⟩:=wv.1 hc;exact qv6 _ _
theorem qo0 {h:qab} {f:FuncId} {v:AVal} {x y:List AVal} (h0:h[0]? =some (.box x)) (h1:h[1]? =some (.box [.ptr 0 0])) (px:qad x=[]) (py:qad y=[])
 (g:qbi C f [.ptr 0 0] [.box [.ptr 1 0],.box x] v [.box [.ptr 1 0],.box y]) (hv:refs v=[]):qnz C h f [.ptr 1 0] v (h.set 0 (.box y)):=by
 have l0:=(wa.1 h0).1
 have l1:=(wa.1 h1).1
 refine qjk qaw [1,0] (by simp[qbv,qad,refs,h0,h1,px]) (by simp) (by unfold qc2;simp[qad,refs,h0,h1,qdq,px]) (?_:qbi C f _ (subH h [1,0]) v [.box [.ptr 1 0],.box y]) hv ?_
 ·have e1:subH h [1,0]=[.box [.ptr 1 0],.box x]:=by
   simp[subH,wo,h0,h1,renB,qbs px,renL,ren];rfl
  have e2:renL (fun x=>[1,0].idxOf x) [.ptr 1 0]=[.ptr 0 0]:=by simp[renL,ren]
  rw[e1,e2];exact g
 ·intro H' k
  apply ww
  intro i
  match i with
  |0=>rw[k.inn 1 0 rfl,wc l0];simp[renB,qbs py]
  |1=>rw[k.inn 0 1 rfl,wb (by decide),h1];simp[renB,renL,ren,qe9]
  |i+2=>
   rw[wb (by omega)]
   by_cases hi:i+2<h.length
   ·exact k.out (i+2) hi (by simp)
   ·have e3:([Blk.box [.ptr 1 0],Blk.box y]:List Blk)[[1,0].length+(i+2-h.length)]? =none:=wj (by simp)
    have e4:h[i+2]? =none:=wj (by omega)
    rw[k.new (i+2) (by omega),e3,e4]
    rfl
theorem q1z {R:Rd} (hR:HypE R) {o:Nat}:∀(n:Nat) (ts ts':List PTok) (l:List (Str×PExpr)),TsOk ts→qey R o n ts= .ok l ts'→TsOk ts'
 |0,_,_,_,_,h=>by cases h
 |n+1,ts,ts',l,hT,h=>by
  simp only[qey]at h
  obtain⟨t0,r0,rfl,hs0,h1⟩:=qbz h
  have hT0:=hT.tail (by rw[hs0];decide)
  obtain⟨hw0,h2⟩:=qa5 h1
  obtain⟨t1,r1,rfl,hT1,_,_⟩:=hT0.hasS hw0
  obtain⟨e,r,he,h3⟩:=PR.bind_ok h2
  have hTr:=(hR _ _ _ _ _ hT1 he).1
  split at h3
  ·rename_i hh
   obtain⟨l1,ts1,h4,h5⟩:=PR.bind_ok h3
   cases h5
   obtain⟨t2,r2,rfl,hT2,_,_⟩:=hTr.hasS hh
   exact q1z hR n _ _ _ hT2 h4
  ·cases h3;exact hTr
structure ListAt where
 n:Nat
 acc:List (Str×PExpr)
 v:AVal
 ts:List PTok
theorem listA_c {R:Rd} (hR:HypE R) (hLen:LenR R) (d:Nat) {n:Nat} {ts ts':List PTok} {l:List (Str×PExpr)} (hT:TsOk ts) (h:qey R d n ts= .ok l ts'):
 TsOk ts'∧qbi C 298 [.ptr 0 0,.str [124],.func 299 [] [.ptr 1 0]] [.box (pbox ts d),.box [.ptr 0 0]] (.slice (l.map fun x=>armC x.1 x.2) .free) [.box (pbox ts' d),.box [.ptr 0 0]]:=by
 refine⟨q1z hR n ts ts' l hT h,?_⟩
 cases n with
 |zero=>cases h
 |succ n=>
  simp only[qey]at h
  obtain⟨t0,r0,rfl,hs0,h⟩:=qbz h
  have hT0:=hT.tail (by rw[hs0];decide)
  obtain⟨hw0,h⟩:=qa5 h
  obtain⟨t1,r1,rfl,hT1,_,_⟩:=hT0.hasS hw0
  obtain⟨e0,rt,h0,h⟩:=PR.bind_ok h
  obtain⟨hTr,x0⟩:=arm_c hR hs0 hw0 hT1 h0
  obtain⟨E,e1,e2⟩:=qo0 (h:=[.box (pbox (t0::t1::r1) d),.box [.ptr 0 0]]) rfl rfl (qaa _ _) (qaa _ _) x0 (by simp only[refs];exact qmk _ _)
  have e2:E.of [.box (pbox (t0::t1::r1) d),.box [.ptr 0 0]]=[.box (pbox rt d),.box [.ptr 0 0]]:=e2
  rw[armX]at e1
  have hle:=hTr.le
  refine qa6 rfl Tryz.func298 rfl (by kernel_rfl) (m:=17) rfl ?_;simp only[Z3,simprocAttr,Tryz.f298,qkw,effs,e1,e2]
  generalize hb:qam PP cmp0 C lpC _=f;generalize hl:lpC f _=r
  obtain⟨ex,s',rfl,rfl,tk,h2⟩:=qch (α:=ListAt) hl [11,12,13,14,15,16,17,18] (fun a=>[(7,a.v)]) (fun a h=>h[0]? =some (.box (pbox a.ts d))∧h[1]? =some (.box [.ptr 0 0])∧Grow2 h a.v (a.acc.map fun x=>armC x.1 x.2) 290∧TsOk a.ts∧a.acc.length+a.ts.length≤65538∧(if hasS [124] a.ts=true then(qey R d a.n a.ts.tail).bind fun l2 ts2=> .ok (a.acc++l2) ts2 else .ok a.acc a.ts)= .ok l ts') (fun a=>a.n) (fun _=>())
   (fun ts _ ex s=>ex= .exit 0∧∃tk,OutT [11,12,13,14,15,16,17,18] ts [(7,.slice (l.map fun x=>armC x.1 x.2) tk)] (fun g=>g[0]? =some (.box (pbox ts' d))∧g[1]? =some (.box [.ptr 0 0])) s) ⟨n,[(t0.text,e0)],.slice [armC t0.text e0] .full,rt⟩ ⟨rfl,rfl,.inl rfl,hTr,by simp only[we,wk];omega,h⟩ (by rw[armX];simp only[AtT,ats]) (by
    rintro⟨n,acc,v,ts⟩ j G dd ⟨q0,q1,hgr,hTs,hln,hp⟩
    clear hl;subst hb
    simp only at q0 q1 hgr hTs hln hp ⊢
    obtain⟨t,rt,rfl⟩:=hTs.ne
    cases hh:hasS [124] (t::rt)
    ·rw[hh]at hp
     simp only[wi,if_false]at hp
     cases hp
     have c1:=qcf (c:=C) (b:=0) (H:=G) (rest:=[.str [124]]) rfl q0 (qaa _ _) (qhx [124] (by decide) t rt d hh) rfl
     simp only[Z3,simprocAttr,effs,qkw,c1]
     obtain⟨tk,hv⟩:∃tk,v= .slice (l.map fun x=>armC x.1 x.2) tk:=by
      rcases hgr with h|⟨_,h,_⟩<;>exact⟨_,h⟩
     subst hv
     exact .inr ⟨_,_,rfl,by simp,rfl,tk,by simp only[OutT,AtT,ats],q0,q1⟩
    ·rw[hh]at hp
     simp only[if_true,wd]at hp
     cases n with
     |zero=>cases hp
     |succ n=>
      obtain⟨l2,ts2,h2,hp⟩:=PR.bind_ok hp
      cases hp
      obtain⟨_,_,hc,hTr,_,_⟩:=hTs.hasS hh
      cases hc
      simp only[qey]at h2
      obtain⟨t0,r0,rfl,hs0,h2⟩:=qbz h2
      have hT0:=hTr.tail (by rw[hs0];decide)
      obtain⟨hw0,h2⟩:=qa5 h2
      obtain⟨t1,r1,rfl,hT1,_,_⟩:=hT0.hasS hw0
      obtain⟨x2,r2,h20,h2⟩:=PR.bind_ok h2
      have hlen2:=hLen _ _ _ _ _ h20
      simp only[wd]at hlen2
      obtain⟨hT2,y2⟩:=arm_c hR hs0 hw0 hT1 h20
      obtain⟨E1,hE1,hh1⟩:=qed qaw (b:=0) (H:=G) (rest:=[.str [124]]) rfl q0 (qaa _ _) (qaa _ _) (qem [124] t (t0::t1::r1) d hh) rfl
      have l0:=(wa.1 q0).1
      obtain⟨g1,hg1⟩:∃g1,g1=G.set 0 (.box (pbox (t0::t1::r1) d)):=⟨_,rfl⟩
      rw[←hg1]at hh1
      have p1:g1[0]? =some (.box (pbox (t0::t1::r1) d)):=by rw[hg1,wc l0]
      have n1:g1[1]? =some (.box [.ptr 0 0]):=by rw[hg1,wb (by decide)];exact q1
      have gg1:=hgr.set (y:=pbox (t0::t1::r1) d) q0
      rw[←hg1]at gg1
      obtain⟨E2,hE2,hh2⟩:=qo0 (h:=g1) p1 n1 (qaa _ _) (qaa _ _) y2 (by simp only[refs];exact qmk _ _)
      rw[armX]at hE2
      obtain⟨g2,hg2⟩:∃g2,g2=g1.set 0 (.box (pbox r2 d)):=⟨_,rfl⟩
      rw[←hg2]at hh2
      have p2:g2[0]? =some (.box (pbox r2 d)):=by rw[hg2,wc (wa.1 p1).1]
      have n2:g2[1]? =some (.box [.ptr 0 0]):=by rw[hg2,wb (by decide)];exact n1
      have gg2:=gg1.set (y:=pbox r2 d) p1
      rw[←hg2]at gg2
      have hlen:acc.length+1≤qac:=by
       simp only[we]at hln
       unfold qac;omega
      obtain⟨v3,E3,ha3,gg3,hB3⟩:=qkc qjh (fs:=[armC t0.text x2]) gg2 (by simpa using hlen) (arms6 acc) (by intro c hc;simp only[wu,wq,or_false]at hc;subst hc;exact qv6 _ _) (by simp)
      have p3:=hB3 _ _ p2
      have n3:=hB3 _ _ n2
      rw[armX]at ha3
      simp only[Z3,simprocAttr,effs,qkw,hE1,hh1,hE2,hh2,ha3]
      refine .inl ⟨⟨n,acc++[(t0.text,x2)],v3,r2⟩,_,rfl,⟨p3,n3,by simpa using gg3,hT2,?_,?_⟩,by simp only[AtT,ats],by simp only[];omega,trivial⟩
      ·simp only[List.length_append,we,wk]at hln ⊢;omega
      ·split at h2
       ·rename_i hh3
        rw[if_pos hh3]
        obtain⟨l3,ts3,h3,h2⟩:=PR.bind_ok h2
        cases h2
        rw[h3]
        simp[PR.bind]
       ·rename_i hh3
        rw[if_neg hh3]
        cases h2
        rfl)
  obtain⟨j,H,dd,⟨q0,q1⟩,rfl⟩:=h2.elim
  clear hl
  simp only[Z3,simprocAttr,effs,qkw]
  exact qcy (.inl rfl) rfl rfl rfl (fun b hb=>by
   rcases w9 b 1 with h0|h0
   ·obtain rfl:b=0:=w8.1 h0
    exact qeu _ _ ts' d _ q0
   ·obtain rfl:b=1:=by omega
    exact q1y _ _ 1 0 q1 (by decide)) (take2 q0 q1)
end Go.Ab
namespace Go.Ab
open Go Go.Ab.Tab
theorem Grow2.box {h:qab} {v:AVal} {es:List (List AVal)} {T:TypeId} (g:Grow2 h v es T) (l:qab):Grow2 (h++l) v es T:=by
 rcases g with g|⟨t,hv,ht⟩
 ·exact .inl g
 ·exact .inr ⟨t,hv,by rw[List.getElem?_append_left (wa.1 ht).1];exact ht⟩
theorem qml {P:Program} {t e sz:Nat} (ok:qfg P t e sz) {h:qab} {v:AVal} {es fs:List (List AVal)} (g:Grow2 h v es e) (hl:es.length+fs.length≤qac) (h1:∀c∈es,c.length=sz) (h2:∀c∈fs,c.length=sz) (hne:¬fs=[]):
 ∃v' f,qb1 P h t v (.slice fs .full)=some (v',f)∧Grow2 (f.of h) v' (es++fs) e∧Boxes h (f.of h)∧∀v2 es2 T2,T2≠e→Grow2 h v2 es2 T2→Grow2 (f.of h) v2 es2 T2:=by
 rcases g with rfl|⟨p,rfl,hp⟩
 ·refine⟨_,_,qcj h ok hl (qbt h1) (qbt h2) hne,.inr ⟨_,rfl,?_⟩,Boxes.app _ _,fun v2 es2 T2 _ g2=>g2.box _⟩
  simp[Eff.of]
 ·refine⟨_,_,qcx h ok hl (qbt h1) (qbt h2) hne hp rfl,.inr ⟨_,rfl,?_⟩,?_,?_⟩
  ·simp only[Eff.of]
   rw[wc (wa.1 hp).1]
   simp
  ·intro k cs hk
   simp only[Eff.of]
   by_cases hkp:p=k
   ·subst hkp;rw[hp]at hk;cases hk
   ·rw[wb hkp];exact hk
  ·intro v2 es2 T2 hT g2
   rcases g2 with g2|⟨q,hq,hq2⟩
   ·exact .inl g2
   ·refine .inr ⟨q,hq,?_⟩
    simp only[Eff.of]
    by_cases hpq:p=q
    ·subst hpq;rw[hp]at hq2;injection hq2 with hq2;injection hq2 with _ hq2;exact(hT hq2.symm).elim
    ·rw[wb hpq];exact hq2
theorem qxx {h:qab} {f g0:FuncId} {s:Str} {v:AVal} {x y:List AVal} (h0:h[0]? =some (.box x)) (h1:h[1]? =some (.box [.ptr 0 0])) (px:qad x=[]) (py:qad y=[])
 (g:qbi C f [.ptr 0 0,.str s,.func g0 [] [.ptr 1 0]] [.box x,.box [.ptr 0 0]] v [.box y,.box [.ptr 0 0]]) (hv:refs v=[]):qnz C h f [.ptr 0 0,.str s,.func g0 [] [.ptr 1 0]] v (h.set 0 (.box y)):=by
 have l0:=(wa.1 h0).1
 have l1:=(wa.1 h1).1
 have ha:qad [.ptr 0 0,.str s,.func g0 [] [.ptr 1 0]]=[0,1]:=rfl
 refine qjk qaw [0,1] (by rw[ha];simp[qbv,qad,refs,h0,h1,px]) (by simp) (by unfold qc2;rw[ha];simp[qad,refs,h0,h1,qdq,px]) (?_:qbi C f _ (subH h [0,1]) v [.box y,.box [.ptr 0 0]]) hv ?_
 ·have e1:subH h [0,1]=[.box x,.box [.ptr 0 0]]:=by
   simp[subH,wo,h0,h1,renB,qbs px,renL,ren]
  have e2:renL (fun x=>[0,1].idxOf x) [.ptr 0 0,.str s,.func g0 [] [.ptr 1 0]]=[.ptr 0 0,.str s,.func g0 [] [.ptr 1 0]]:=rfl
  rw[e1,e2];exact g
 ·intro H' k
  apply ww
  intro i
  match i with
  |0=>rw[k.inn 0 0 rfl,wc l0];simp[renB,qbs py]
  |1=>rw[k.inn 1 1 rfl,wb (by decide),h1];simp[renB,renL,ren,qe9]
  |i+2=>
   rw[wb (by omega)]
   by_cases hi:i+2<h.length
   ·exact k.out (i+2) hi (by simp)
   ·have e3:([Blk.box y,Blk.box [.ptr 0 0]]:List Blk)[[0,1].length+(i+2-h.length)]? =none:=wj (by simp)
    have e4:h[i+2]? =none:=wj (by omega)
    rw[k.new (i+2) (by omega),e3,e4]
    rfl
theorem qth {R:Rd} (hLen:LenR R) {o:Nat}:∀(n:Nat) (ts ts':List PTok) (l:List (Str×PExpr)),qey R o n ts= .ok l ts'→l.length+ts'.length≤ts.length
 |0,_,_,_,h=>by cases h
 |n+1,ts,ts',l,h=>by
  simp only[qey]at h
  obtain⟨t0,r0,rfl,hs0,h1⟩:=qbz h
  obtain⟨hw0,h2⟩:=qa5 h1
  obtain⟨e,r,he,h3⟩:=PR.bind_ok h2
  have h9:=hLen _ _ _ _ _ he
  rw[wz]at h9
  simp only[we]
  split at h3
  ·rename_i hh
   obtain⟨l1,ts1,h4,h5⟩:=PR.bind_ok h3
   cases h5
   have:=qth hLen n _ _ _ h4
   rw[wz]at this
   simp only[we]
   cases r with
   |nil=>simp[hasS]at hh
   |cons a b=>simp only[we]at*;omega
  ·cases h3
   simp only[we,wk]
   cases r0 with
   |nil=>simp[hasS]at hw0
   |cons a b=>simp only[we]at*;omega
theorem want_at {H:qab} (s:Str) (t:PTok) (r:List PTok) (d:Nat) (q0:H[0]? =some (.box (pbox (t::r) d))) (h:hasS s (t::r)=true):∃E:Eff,qai C H 78 [.ptr 0 0,.slice [[.str s]] .full]=some (.ret (.tuple []) E)∧E.of H=H.set 0 (.box (pbox r d)):=
 qed (c:=C) (v:= .tuple []) (x:=pbox (t::r) d) (y:=pbox r d) qaw (b:=0) (H:=H) (rest:=[.slice [[.str s]] .full]) rfl q0 (qaa _ _) (qaa _ _) (qhg _ t r d h) rfl
structure ArmSt where
 i:Nat
 vc:AVal
 vk:AVal
theorem parms_c {m:Nat} {R:Rd} (hR:HypE R) (hLen:LenR R) (d:Nat):HypA m R d:=by
 intro op ts e ts' hT h
 unfold qja at h
 obtain⟨t,r,rfl,hs,h⟩:=qbz h
 have hTr:=hT.tail (by rw[hs];decide)
 obtain⟨w1,h⟩:=qa5 h
 obtain⟨t1,r1,rfl,hT1,_,_⟩:=hTr.hasS w1
 obtain⟨l,tsl,hl2,h⟩:=PR.bind_ok h
 obtain⟨hT2,gl⟩:=listA_c hR hLen d hT1 hl2
 have hlen:=qth hLen _ _ _ _ hl2
 have hle:=hT1.le
 rw[wd]at hlen
 obtain⟨w2,h⟩:=qa5 h
 obtain⟨t2,r2,rfl,hT3,_,_⟩:=hT2.hasS w2
 cases h
 refine⟨hT3,?_⟩
 obtain⟨E1,a1,a2⟩:=met (qdy t (t1::r1) d hs) rfl (qaa _ _) (qaa _ _) rfl
 obtain⟨E2,b1,b2⟩:=qbr _ t1 r1 d w1
 obtain⟨E3,c1,c2⟩:=qxx (h:=[.box (pbox r1 d),.box [.ptr 0 0],.box qax,.box [.int .i64 op,.str t.text,.int .i64 0,.slice [] .full,.slice [] .full]]) rfl rfl (qaa _ _) (qaa _ _) gl rfl
 have c2:E3.of [.box (pbox r1 d),.box [.ptr 0 0],.box qax,.box [.int .i64 op,.str t.text,.int .i64 0,.slice [] .full,.slice [] .full]]=[.box (pbox (t2::r2) d),.box [.ptr 0 0],.box qax,.box [.int .i64 op,.str t.text,.int .i64 0,.slice [] .full,.slice [] .full]]:=c2
 unfold qax at c1 c2
 have d5:=armC
 unfold RdE
 refine qa6 rfl Tryz.func287 rfl (by kernel_rfl) (m:=40) rfl ?_;simp only[Z3,simprocAttr,Tryz.f287,qip,effs,a1,a2,b1,b2,c1,c2]
 generalize hb:qam PP cmp0 C lpC _=f;generalize hl:lpC f _=r
 obtain⟨ex,s',rfl,rfl,h2⟩:=qch (α:=ArmSt) hl [7,20,21,22,23,24,25,26,27,28,29,30,31,32,33,34,35,36,37] (fun a=>[(19,.int .i64 a.i)]) (fun a h=>h[0]? =some (.box (pbox (t2::r2) d))∧h[1]? =some (.box [.ptr 0 0])∧h[2]? =some (.box qax)∧h[3]? =some (.box [AVal.int .i64 op,.str t.text,.int .i64 0,a.vc,a.vk])∧Grow2 h a.vc ((l.take a.i).map fun x=>[.str x.1]) 9∧Grow2 h a.vk ((l.take a.i).map fun x=>x.2.cells) 37∧a.i≤l.length) (fun a=>l.length-a.i) (fun _=>())
  (fun ts _ ex s=>ex= .exit 0∧OutT [7,19,20,21,22,23,24,25,26,27,28,29,30,31,32,33,34,35,36,37] ts [] (fun h=>h[0]? =some (.box (pbox (t2::r2) d))∧h[1]? =some (.box [.ptr 0 0])∧h[2]? =some (.box qax)∧∃tc tk,h[3]? =some (.box [AVal.int .i64 op,.str t.text,.int .i64 0,.slice (l.map fun x=>[.str x.1]) tc,.slice (l.map fun x=>x.2.cells) tk])) s) ⟨0,.slice [] .full,.slice [] .full⟩ ⟨rfl,rfl,rfl,rfl,.inl rfl,.inl rfl,Nat.zero_le _⟩ (by simp only[AtT,ats,Int.natCast_zero]) (by
   rintro⟨i,vc,vk⟩ j G dd ⟨q0,q1,q2,q3,gc,gk,hi⟩
   clear hl;subst hb
   simp only at q0 q1 q2 q3 gc gk hi ⊢
   obtain⟨tc,hvc⟩:∃tc,vc= .slice ((l.take i).map fun x=>[.str x.1]) tc:=by rcases gc with h|⟨_,h,_⟩<;>exact⟨_,h⟩
   obtain⟨tk,hvk⟩:∃tk,vk= .slice ((l.take i).map fun x=>x.2.cells) tk:=by rcases gk with h|⟨_,h,_⟩<;>exact⟨_,h⟩
   subst hvc hvk
   by_cases hlt:i<l.length
   ·have e1:((i:Int)<(l.length:Int)):=by omega
    have e3:(l.map fun x=>armC x.1 x.2)[i]? =some [AVal.str l[i].1,.int .i64 l[i].2.op,.str l[i].2.name,.int .i64 l[i].2.n,.slice (l[i].2.cons.map fun s=>[.str s]) .free,.slice (l[i].2.kids.map PExpr.cells) .free]:=by
     rw[List.getElem?_map,List.getElem?_eq_getElem hlt,Option.map_some,armX]
    have g4:=(wa.1 q3).1
    obtain⟨G1,hG⟩:∃G1,G1=G++[Blk.box [AVal.str l[i].1,.int .i64 l[i].2.op,.str l[i].2.name,.int .i64 l[i].2.n,.slice (l[i].2.cons.map fun s=>[.str s]) .free,.slice (l[i].2.kids.map PExpr.cells) .free]]:=⟨_,rfl⟩
    have P3:G1[3]? =some (.box [AVal.int .i64 op,.str t.text,.int .i64 0,.slice ((l.take i).map fun x=>[.str x.1]) tc,.slice ((l.take i).map fun x=>x.2.cells) tk]):=by rw[hG];exact Boxes.app _ _ _ _ q3
    have Pt:G1[G.length]? =some (.box [AVal.str l[i].1,.int .i64 l[i].2.op,.str l[i].2.name,.int .i64 l[i].2.n,.slice (l[i].2.cons.map fun s=>[.str s]) .free,.slice (l[i].2.kids.map PExpr.cells) .free]):=by rw[hG];simp
    have gc1:=gc.box [Blk.box [AVal.str l[i].1,.int .i64 l[i].2.op,.str l[i].2.name,.int .i64 l[i].2.n,.slice (l[i].2.cons.map fun s=>[.str s]) .free,.slice (l[i].2.kids.map PExpr.cells) .free]]
    have gk1:=gk.box [Blk.box [AVal.str l[i].1,.int .i64 l[i].2.op,.str l[i].2.name,.int .i64 l[i].2.n,.slice (l[i].2.cons.map fun s=>[.str s]) .free,.slice (l[i].2.kids.map PExpr.cells) .free]]
    rw[←hG]at gc1 gk1
    have htl:(l.take i).length=i:=by rw[List.length_take];omega
    obtain⟨v1,E1,ha1,gc2,hB1,hO1⟩:=qml qgx (fs:=[[.str l[i].1]]) gc1 (by rw[w6,htl];simp only[we,wk];unfold qac;omega) (by intro c hc;obtain⟨x,_,rfl⟩:=wv.1 hc;rfl) (by intro c hc;simp only[wu,wq,or_false]at hc;subst hc;rfl) (by simp)
    have gk2:=hO1 _ _ _ (by decide) gk1
    have r3:=hB1 _ _ P3
    have rt:=hB1 _ _ Pt
    obtain⟨tc1,hv1⟩:∃tc,v1= .slice ((l.take i).map (fun x=>[AVal.str x.1])++[[AVal.str l[i].1]]) tc:=by rcases gc2 with h|⟨_,h,_⟩<;>exact⟨_,h⟩
    subst hv1
    obtain⟨G2,hG2⟩:∃G2,G2=(E1.of G1).set 3 (.box [.int .i64 op,.str t.text,.int .i64 0,.slice ((l.take i).map (fun x=>[AVal.str x.1])++[[AVal.str l[i].1]]) tc1,.slice ((l.take i).map fun x=>x.2.cells) tk]):=⟨_,rfl⟩
    have l3:=(wa.1 r3).1
    have s3:G2[3]? =some (.box [.int .i64 op,.str t.text,.int .i64 0,.slice ((l.take i).map (fun x=>[AVal.str x.1])++[[AVal.str l[i].1]]) tc1,.slice ((l.take i).map fun x=>x.2.cells) tk]):=by rw[hG2,wc l3]
    have st:G2[G.length]? =some (.box [AVal.str l[i].1,.int .i64 l[i].2.op,.str l[i].2.name,.int .i64 l[i].2.n,.slice (l[i].2.cons.map fun s=>[.str s]) .free,.slice (l[i].2.kids.map PExpr.cells) .free]):=by rw[hG2,wb (by omega)];exact rt
    have gc3:=gc2.set (y:=[.int .i64 op,.str t.text,.int .i64 0,.slice ((l.take i).map (fun x=>[AVal.str x.1])++[[AVal.str l[i].1]]) tc1,.slice ((l.take i).map fun x=>x.2.cells) tk]) r3
    have gk3:=gk2.set (y:=[.int .i64 op,.str t.text,.int .i64 0,.slice ((l.take i).map (fun x=>[AVal.str x.1])++[[AVal.str l[i].1]]) tc1,.slice ((l.take i).map fun x=>x.2.cells) tk]) r3
    rw[←hG2]at gc3 gk3
    have ecs:[AVal.int .i64 l[i].2.op,.str l[i].2.name,.int .i64 l[i].2.n,.slice (l[i].2.cons.map fun s=>[.str s]) .free,.slice (l[i].2.kids.map PExpr.cells) .free]=l[i].2.cells:=(l[i].2.cells_eq).symm
    obtain⟨v2,E2,ha2,gk4,hB2,hO2⟩:=qml qie (fs:=[[AVal.int .i64 l[i].2.op,.str l[i].2.name,.int .i64 l[i].2.n,.slice (l[i].2.cons.map fun s=>[.str s]) .free,.slice (l[i].2.kids.map PExpr.cells) .free]]) gk3 (by rw[w6,htl];simp only[we,wk];unfold qac;omega) (by intro c hc;obtain⟨x,_,rfl⟩:=wv.1 hc;exact x.2.len) (by intro c hc;simp only[wu,wq,or_false]at hc;subst hc;rfl) (by simp)
    have gc4:=hO2 _ _ _ (by decide) gc3
    have u3:=hB2 _ _ s3
    obtain⟨tk2,hv2⟩:∃tk,v2= .slice ((l.take i).map (fun x=>x.2.cells)++[[AVal.int .i64 l[i].2.op,.str l[i].2.name,.int .i64 l[i].2.n,.slice (l[i].2.cons.map fun s=>[.str s]) .free,.slice (l[i].2.kids.map PExpr.cells) .free]]) tk:=by rcases gk4 with h|⟨_,h,_⟩<;>exact⟨_,h⟩
    subst hv2
    simp only[Z3,simprocAttr,effs,qip,e1,e3,←hG,P3,Pt,ha1,r3,rt,←hG2,s3,st,ha2,u3,qaz (show i≤qac by unfold qac;omega)]
    have keep:∀(k:Nat) (cs:List AVal) (y:Blk),k≠3→G[k]? =some (.box cs)→((E2.of G2).set 3 y)[k]? =some (.box cs):=by
     intro k cs y hk hq
     rw[wb (Ne.symm hk)]
     refine hB2 _ _ ?_
     rw[hG2,wb (Ne.symm hk)]
     refine hB1 _ _ ?_
     rw[hG];exact Boxes.app _ _ _ _ hq
    have l4:=(wa.1 u3).1
    have tkc:(l.take (i+1)).map (fun x=>[AVal.str x.1])=(l.take i).map (fun x=>[AVal.str x.1])++[[AVal.str l[i].1]]:=by rw[wm hlt,w7];rfl
    have tkk:(l.take (i+1)).map (fun x=>x.2.cells)=(l.take i).map (fun x=>x.2.cells)++[[AVal.int .i64 l[i].2.op,.str l[i].2.name,.int .i64 l[i].2.n,.slice (l[i].2.cons.map fun s=>[.str s]) .free,.slice (l[i].2.kids.map PExpr.cells) .free]]:=by rw[wm hlt,w7,ecs];rfl
    refine .inl ⟨⟨i+1,.slice ((l.take i).map (fun x=>[AVal.str x.1])++[[AVal.str l[i].1]]) tc1,.slice ((l.take i).map (fun x=>x.2.cells)++[[AVal.int .i64 l[i].2.op,.str l[i].2.name,.int .i64 l[i].2.n,.slice (l[i].2.cons.map fun s=>[.str s]) .free,.slice (l[i].2.kids.map PExpr.cells) .free]]) tk2⟩,_,rfl,⟨keep 0 _ _ (by decide) q0,keep 1 _ _ (by decide) q1,keep 2 _ _ (by decide) q2,wc l4,?_,?_,hlt⟩,by simp only[AtT,ats],by simp only[];omega,trivial⟩
    ·simp only[tkc];exact gc4.set u3
    ·simp only[tkk];exact gk4.set u3
   ·have e1:¬((i:Int)<(l.length:Int)):=by omega
    have hil:i=l.length:=by omega
    subst hil
    rw[List.take_length]at q3
    simp only[Z3,simprocAttr,effs,qip,e1]
    exact .inr ⟨_,_,rfl,by simp,rfl,by simp only[OutT,AtT,ats],q0,q1,q2,tc,tk,q3⟩)
 obtain⟨j,H,dd,hI,rfl⟩:=h2.elim
 have q0:=hI.1
 have q1:=hI.2.1
 have q2:=hI.2.2.1
 obtain⟨tc,tk,q3⟩:=hI.2.2.2
 clear hl
 obtain⟨E4,hE4,hh4⟩:=want_at [41] t2 r2 d q0 w2
 obtain⟨H1,hH1⟩:∃H1,H1=H.set 0 (.box (pbox r2 d)):=⟨_,rfl⟩
 rw[←hH1]at hh4
 have l0:=(wa.1 q0).1
 have p0:H1[0]? =some (.box (pbox r2 d)):=by rw[hH1,wc l0]
 have p2:H1[2]? =some (.box qax):=by rw[hH1,wb (by decide)];exact q2
 have p3:H1[3]? =some (.box [AVal.int .i64 op,.str t.text,.int .i64 0,.slice (l.map fun x=>[.str x.1]) tc,.slice (l.map fun x=>x.2.cells) tk]):=by rw[hH1,wb (by decide)];exact q3
 have ez:qax=[.int .i64 0,.str [],.int .i64 0,.slice [] .full,.slice [] .full]:=rfl
 rw[ez]at p2
 simp only[Z3,simprocAttr,effs,qip,q1,hE4,hh4,p2,p3]
 have l2:=(wa.1 p2).1
 have hmk:=mk_c op t.text 0 (l.map (fun x=>x.1)) (l.map (fun x=>x.2)) tc tk
 rw[waa,waa]at hmk
 have hb0:∀y,(H1.set 2 y)[0]? =some (.box (pbox r2 d)):=fun y=>by rw[wb (by decide)];exact p0
 exact qe1 (k:=4) (b:=2) (ts:=r2) (d:=d) (.inl rfl) rfl (wc l2) hmk (hb0 _) (qoz (hb0 _))
end Go.Ab
