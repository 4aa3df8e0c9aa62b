/- Brackets and notes change nothing: the law. -/
import Derived.Test.YtngklkmeknmloaaGreatDoorAbFu
import Derived.Test.YtngklkmeknmloaaGreatDoorAbSmi
set_option linter.unusedSimpArgs false
set_option linter.unusedVariables false
set_option maxRecDepth 100000
set_option maxHeartbeats 4000000
open Go.Proofs
open List renaming length_cons→wa,length_nil→wb
open Nat renaming le_refl→wc
open Int renaming emod_nonneg→wd
namespace Go.Ab
open Go
variable {R:Rd} {L:Nat}
theorem q5j (ts:List PTok) (hg:TG ts) {N:Nat} (hN:2*ts.length+2≤N):(∃p r,pE N 0 1 ts= .ok p r∧p.bulk≤tW ts∧GR p)∨∃e r,pE N 0 1 ts= .bad e r∧e≠0:=by
 have h:=pE_f N 0 1 ts hg (by split<;>omega)
 cases hx:pE N 0 1 ts with
 |ok p r=>
  rw[hx]at h
  refine .inl ⟨p,r,rfl,?_,h.2⟩
  have:=h.1.w;omega
 |bad e r=>rw[hx]at h;exact .inr ⟨e,r,rfl,h⟩
 |out=>rw[hx]at h;exact h.elim
end Go.Ab
namespace Go.Ab
open Go Go.Ab.Tab
theorem q5k (text:Str) (hl:text.length≤qac):(∃a b c,a≠0∧Ret D 19 [.str text] (.tuple [.agg qk0,.agg (fC a b c)]))∨
 ∃e:PExpr,GR e∧e.bulk≤1114128∧Ret D 19 [.str text] (.tuple [.agg e.cells,.agg qgl]):=by
 by_cases hb:65536<text.length∨(qb8 text (text.length+1) 0).1=none
 ·obtain⟨a,b,c,ha,hv⟩:=scanV_bad text hb
  exact .inl ⟨a,b,c,ha,qoi text (q5e text hl ha hv)⟩
 have hT:text.length≤65536:=by omega
 cases hs:qb8 text (text.length+1) 0 with
 |mk x k=>
  cases x with
  |none=>exact absurd (.inr (by rw[hs])) hb
  |some l=>
   obtain⟨h1,h2,h3⟩:=scan_ok hT hs
   rcases q5j l h2 (wc _)with⟨e,r,hp,hpb,hpr⟩|⟨e,r,hp,he⟩
   ·by_cases h6:qdt r=6
    ·exact .inr ⟨e,hpr,by omega,qrb text hT hs h1 hp h6⟩
    ·have g:=qu0 (que _) h1 hp h6
     obtain⟨b,c,hf⟩:=qs4 3 r
     rw[qs3,hf]at g
     exact .inl ⟨3,b,c,by decide,qoi text (qyg (ts':=l) text hT (by decide) hs g)⟩
   ·obtain⟨b,c,hf⟩:=qs4 e r
    have g:=pexprF_p h1 hp
    rw[qs3,hf]at g
    exact .inl ⟨e,b,c,he,qoi text (qyg (ts':=l) text hT he hs g)⟩
theorem bin_rem5 (t:TypeId) (n:Bool) (a:Int):binA PP cmp0 .rem t n (.int .u64 a) (.int .u64 5)=some (.int .u64 (a.tmod 5)):=rfl
theorem mod5 (n:Int):∃i:Nat,i<5∧qbj .i64 ((qbj .u64 n).tmod 5)=(i:Int):=by
 have h0:0≤qbj .u64 n:=by
  show 0≤IntKind.wrap .u64 n
  unfold IntKind.wrap
  simp only[IntKind.signed,Bool.false_and]
  exact wd _ (by decide)
 have h1:(qbj .u64 n).tmod 5=(qbj .u64 n) % 5:=Int.tmod_eq_emod_of_nonneg h0
 have h2:=wd (qbj .u64 n) (show(5:Int)≠0 by decide)
 have h3:=Int.emod_lt_of_pos (qbj .u64 n) (show(0:Int)<5 by decide)
 refine⟨((qbj .u64 n) % 5).toNat,by omega,?_⟩
 rw[h1]
 generalize(qbj .u64 n) % 5=z at*
 unfold qbj
 simp only
 rw[if_pos (by simp;omega)]
 omega
theorem br_text {e:PExpr} (g:GR e) (hd:nd e≤40) {j:Nat} (hj:j≤4) (hT:(brS j (J e.words)).length≤65536):Ret D 19 [.str (brS j (J e.words))] (.tuple [.agg e.cells,.agg qgl]):=by
 obtain⟨b,f⟩:=q1m g.2 g.1
 obtain⟨l,p,h1,h2⟩:=br_scan (qne e) (q18 g.2 g.1) j
 obtain⟨t1,-,-⟩:=scan_ok hT h1
 obtain⟨N,hN⟩:=br_read b f hd j 0 (by omega) [tEnd] ⟨⟨⟨rfl,rfl⟩,rfl,rfl⟩,rfl⟩
 have hp:=hN N N (wc _) (wc _)
 rw[←h2]at hp
 obtain⟨ts',h4,h5⟩:=(pE_v N 0 1).back hp
 exact qrb _ hT h1 t1 h4 (by rw[←qh5,h5];rfl)
theorem qh6 (s:Str):∀n,(brS n s).length=s.length+12*n
 |0=>rfl
 |n+1=>by simp only[brS,qk1,wa,List.length_append,qh6 s n,wb];omega
theorem pbrk_c (text:Str) (m:Int) (hl:text.length≤1048576):D 5 [.str text,.int .i64 m] []=some (.ret (.bool true) .same):=by
 rcases q5k text (by unfold qac;omega)with⟨a,b,c,ha,g⟩|⟨e,hg,hb,g⟩
 ·unfold fC qk0 at g
  have n0:(a !=0)=true:=by simpa using ha
  rw[D_fn rfl Tryz.func5 rfl (by kernel_rfl) (m:=55) rfl];simp only[Z3,simprocAttr,Tryz.f5,fx_5,effs,qok _,g _,n0]
 unfold qgl at g
 have sm:e.Small:=e.small_of_bulk 1114128 (by omega) (by decide)
 have sp:∀(e:PExpr) (x0 x1 x2 x3 x4:AVal),qau [x0,x1,x2,x3,x4] 0 e.cells=some e.cells:=fun e _ _ _ _ _=>qci (by rw[e.len];rfl)
 have d0:=(qpo e sm).up
 have sh:Ret D 23 [.agg e.cells] (.str (brS 0 (J e.words))):=(qst e sm hg.1 (by omega)).up
 rcases Bool.eq_false_or_eq_true (decide (40<e.depth))with dE|dE
 ·rw[D_fn rfl Tryz.func5 rfl (by kernel_rfl) (m:=55) rfl];simp only[Z3,simprocAttr,Tryz.f5,fx_5,effs,qok _,g _,sp _,e.ones,e.len,e.take,e.strip,d0 _,dE]
 have hd:nd e≤40:=by
  simp only[decide_eq_false_iff_not,Int.not_lt]at dE
  have:=q16 e (by have:=nd_bulk e;unfold qac;omega)
  omega
 obtain⟨j,hj,ej⟩:=mod5 m
 have hw:=qpv e
 have hJ:=J_len e.words
 have cat:∀(x y z:Str),x++y=z→x.length+y.length≤100000000→∀t n,binA PP cmp0 .add t n (.str x) (.str y)=some (.str z):=fun x y z e h t n=>e▸qxs PP cmp0 t n x y (by unfold qlr;omega)
 have a0:=cat [40] (brS 0 (J e.words)) (40::brS 0 (J e.words)) rfl (by rw[qh6];simp only[wa,wb];omega)
 have b0:=cat (40::brS 0 (J e.words)) qk1 (brS 1 (J e.words)) rfl (by rw[wa,qh6];simp only[qk1,wa,wb];omega)
 have a1:=cat [40] (brS 1 (J e.words)) (40::brS 1 (J e.words)) rfl (by rw[qh6];simp only[wa,wb];omega)
 have b1:=cat (40::brS 1 (J e.words)) qk1 (brS 2 (J e.words)) rfl (by rw[wa,qh6];simp only[qk1,wa,wb];omega)
 have a2:=cat [40] (brS 2 (J e.words)) (40::brS 2 (J e.words)) rfl (by rw[qh6];simp only[wa,wb];omega)
 have b2:=cat (40::brS 2 (J e.words)) qk1 (brS 3 (J e.words)) rfl (by rw[wa,qh6];simp only[qk1,wa,wb];omega)
 have a3:=cat [40] (brS 3 (J e.words)) (40::brS 3 (J e.words)) rfl (by rw[qh6];simp only[wa,wb];omega)
 have b3:=cat (40::brS 3 (J e.words)) qk1 (brS 4 (J e.words)) rfl (by rw[wa,qh6];simp only[qk1,wa,wb];omega)
 unfold qk1 at b0 b1 b2 b3
 have w1:qbj .i64 1=1:=rfl
 have w2:qbj .i64 2=2:=rfl
 have w3:qbj .i64 3=3:=rfl
 have w4:qbj .i64 4=4:=rfl
 have q:=(qoo e e sm sm).up
 rw[(same_iff e e).2 rfl]at q
 have hln:(brS j (J e.words)).length≤qac:=by rw[qh6];unfold qac;omega
 rw[D_fn rfl Tryz.func5 rfl (by kernel_rfl) (m:=55) rfl];simp only[Z3,simprocAttr,Tryz.f5,fx_5,effs,qok _,g _,sp _,e.ones,e.len,e.take,e.strip,d0 _,dE,cv1,cv2,bin_rem5,ej,sh _]
 have key:(65536<(brS j (J e.words)).length∧decide ((65536:Int)<((brS j (J e.words)).length:Int))=true)∨(decide ((65536:Int)<((brS j (J e.words)).length:Int))=false∧Ret D 19 [.str (brS j (J e.words))] (.tuple [.agg e.cells,.agg qgl])):=by
  by_cases h:65536<(brS j (J e.words)).length
  ·exact .inl ⟨h,decide_eq_true (by omega)⟩
  ·exact .inr ⟨decide_eq_false (by omega),br_text hg hd (by omega) (by omega)⟩
 unfold qgl at key
 have hcase:j=0∨j=1∨j=2∨j=3∨j=4:=by omega
 rcases hcase with rfl|rfl|rfl|rfl|rfl
 ·rw[qb4]
  rcases key with⟨_,k1⟩|⟨k1,k2⟩
  ·simp only[Z3,simprocAttr,effs,sp _,e.ones,e.len,e.take,e.strip,w1,w2,w3,w4,fx_5,hln,k1]
  ·simp only[Z3,simprocAttr,effs,sp _,e.ones,e.len,e.take,e.strip,w1,w2,w3,w4,fx_5,hln,k1,k2 _,qe6,q _]
 ·rw[qb4]
  simp only[Z3,simprocAttr,effs,sp _,e.ones,e.len,e.take,e.strip,w1,w2,w3,w4,fx_5,a0,b0]
  rw[qb4]
  rcases key with⟨_,k1⟩|⟨k1,k2⟩
  ·simp only[Z3,simprocAttr,effs,sp _,e.ones,e.len,e.take,e.strip,w1,w2,w3,w4,fx_5,hln,k1]
  ·simp only[Z3,simprocAttr,effs,sp _,e.ones,e.len,e.take,e.strip,w1,w2,w3,w4,fx_5,hln,k1,k2 _,qe6,q _]
 ·rw[qb4]
  simp only[Z3,simprocAttr,effs,sp _,e.ones,e.len,e.take,e.strip,w1,w2,w3,w4,fx_5,a0,b0]
  rw[qb4]
  simp only[Z3,simprocAttr,effs,sp _,e.ones,e.len,e.take,e.strip,w1,w2,w3,w4,fx_5,a1,b1]
  rw[qb4]
  rcases key with⟨_,k1⟩|⟨k1,k2⟩
  ·simp only[Z3,simprocAttr,effs,sp _,e.ones,e.len,e.take,e.strip,w1,w2,w3,w4,fx_5,hln,k1]
  ·simp only[Z3,simprocAttr,effs,sp _,e.ones,e.len,e.take,e.strip,w1,w2,w3,w4,fx_5,hln,k1,k2 _,qe6,q _]
 ·rw[qb4]
  simp only[Z3,simprocAttr,effs,sp _,e.ones,e.len,e.take,e.strip,w1,w2,w3,w4,fx_5,a0,b0]
  rw[qb4]
  simp only[Z3,simprocAttr,effs,sp _,e.ones,e.len,e.take,e.strip,w1,w2,w3,w4,fx_5,a1,b1]
  rw[qb4]
  simp only[Z3,simprocAttr,effs,sp _,e.ones,e.len,e.take,e.strip,w1,w2,w3,w4,fx_5,a2,b2]
  rw[qb4]
  rcases key with⟨_,k1⟩|⟨k1,k2⟩
  ·simp only[Z3,simprocAttr,effs,sp _,e.ones,e.len,e.take,e.strip,w1,w2,w3,w4,fx_5,hln,k1]
  ·simp only[Z3,simprocAttr,effs,sp _,e.ones,e.len,e.take,e.strip,w1,w2,w3,w4,fx_5,hln,k1,k2 _,qe6,q _]
 ·rw[qb4]
  simp only[Z3,simprocAttr,effs,sp _,e.ones,e.len,e.take,e.strip,w1,w2,w3,w4,fx_5,a0,b0]
  rw[qb4]
  simp only[Z3,simprocAttr,effs,sp _,e.ones,e.len,e.take,e.strip,w1,w2,w3,w4,fx_5,a1,b1]
  rw[qb4]
  simp only[Z3,simprocAttr,effs,sp _,e.ones,e.len,e.take,e.strip,w1,w2,w3,w4,fx_5,a2,b2]
  rw[qb4]
  simp only[Z3,simprocAttr,effs,sp _,e.ones,e.len,e.take,e.strip,w1,w2,w3,w4,fx_5,a3,b3]
  rw[qb4]
  rcases key with⟨_,k1⟩|⟨k1,k2⟩
  ·simp only[Z3,simprocAttr,effs,sp _,e.ones,e.len,e.take,e.strip,w1,w2,w3,w4,fx_5,hln,k1]
  ·simp only[Z3,simprocAttr,effs,sp _,e.ones,e.len,e.take,e.strip,w1,w2,w3,w4,fx_5,hln,k1,k2 _,qe6,q _]
end Go.Ab
