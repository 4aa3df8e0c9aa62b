/- What the printer writes of an expression, op for op. -/
import Derived.Test.YtngklkmeknmloaaGreatDoorAbInv
import Derived.Test.YtngklkmeknmloaaGreatDoorAbRead
set_option linter.unusedSimpArgs false
set_option linter.unusedVariables false
set_option maxRecDepth 100000
set_option maxHeartbeats 4000000
open Go.Proofs
open List renaming length_append→wa,length_cons→wb,length_nil→wc,getElem?_eq_some_iff→wd,append_assoc→we,cons_append→wf,nil_append→wg,forall_mem_cons→wh
namespace Go.Ab
open Go Go.Ab.Tab
theorem fmtInt_c (z:Int) (hz:qbp z):Ret C 101 [.int .i64 z,.int .i64 10] (.str (decB z)):=by
 refine Ret.mk rfl rfl ?_
 unfold C
 rw[qtr ext_int]
 show(if -9223372036854775808≤z∧z≤9223372036854775807 then some (CR.ret (.str (decB z)) Eff.same)else none)=_
 obtain⟨h1,h2⟩:=hz
 rw[if_pos ⟨h1,h2⟩]
theorem fmtBool_c (b:Bool):Ret C 102 [.bool b] (.str (qm7 b)):=by
 cases b<;>exact Ret.mk rfl rfl (C_of (n:=4) (by kernel_rfl))
theorem prexpr_1 (e:PExpr) (hop:e.op=1) (hs:e.Small) (hr:qbp e.n) (ih:∀x∈e.kids,PrV 54 [.agg x.cells] x.words):PrW 54 [.agg e.cells] (e.words):=by
 intro ws tk h c hb
 have p0:=c.at
 have hpos:0<h.length:=by
  cases tk with
  |none=>exact(wd.1 p0.2).1
  |some t=>exact(wd.1 p0.1).1
 have hwd:e.words=[decB e.n]:=by rw[qeb,hop];rfl
 rw[hwd]at hb ⊢
 have c1:=fmtInt_c e.n hr
 have b_0:(h++[Blk.box e.cells])[h.length]? =some (.box e.cells):=qcq _ _
 refine qdt rfl Tryz.func54 rfl (by kernel_rfl) (m:=136) rfl ?_;simp only[Z3,simprocAttr,Tryz.f54,effs,qb0,hop,c1 _]
 obtain⟨E1,hE1,tt,htt,hnn,p1,o1,l1⟩:=qdx qaw (show PrW 59 [.slice [[.str (decB e.n)]] .full] [(decB e.n)]from qcs [(decB e.n)] (by simp)) rfl (p0.app [.box e.cells]) (by(try simp only[wa,wb,wc]at hb);(try simp only[wa,wb,wc]);omega)
 have b_1:(Eff.of (h++[.box e.cells]) E1)[h.length]? =some (.box e.cells):=o1 _ _ (by omega) b_0
 simp only[Z3,simprocAttr,effs,qb0,ty,b_1,hop,hE1]
 clear hE1;generalize hh1:Eff.of (h++[.box e.cells]) E1=h1 at*;clear hh1
 exact qdk c (fun _=>by simp) (by first|exact .inl rfl|exact .inr rfl) rfl htt (fun e=>by have:=hnn e;simp only[wa]at this;omega) (by simpa only[we,wf,wg]using p1)
theorem prexpr_2 (e:PExpr) (hop:e.op=2) (hs:e.Small) (hr:qbp e.n) (ih:∀x∈e.kids,PrV 54 [.agg x.cells] x.words):PrW 54 [.agg e.cells] (e.words):=by
 intro ws tk h c hb
 have p0:=c.at
 have hpos:0<h.length:=by
  cases tk with
  |none=>exact(wd.1 p0.2).1
  |some t=>exact(wd.1 p0.1).1
 have hwd:e.words=[qm7 (e.n==1)]:=by rw[qeb,hop];rfl
 rw[hwd]at hb ⊢
 have c1:=fmtBool_c (e.n==1)
 have b_0:(h++[Blk.box e.cells])[h.length]? =some (.box e.cells):=qcq _ _
 refine qdt rfl Tryz.func54 rfl (by kernel_rfl) (m:=136) rfl ?_;simp only[Z3,simprocAttr,Tryz.f54,effs,qb0,hop,c1 _]
 obtain⟨E1,hE1,tt,htt,hnn,p1,o1,l1⟩:=qdx qaw (show PrW 59 [.slice [[.str (qm7 (e.n==1))]] .full] [(qm7 (e.n==1))]from qcs [(qm7 (e.n==1))] (by simp)) rfl (p0.app [.box e.cells]) (by(try simp only[wa,wb,wc]at hb);(try simp only[wa,wb,wc]);omega)
 have b_1:(Eff.of (h++[.box e.cells]) E1)[h.length]? =some (.box e.cells):=o1 _ _ (by omega) b_0
 simp only[Z3,simprocAttr,effs,qb0,ty,b_1,hop,hE1]
 clear hE1;generalize hh1:Eff.of (h++[.box e.cells]) E1=h1 at*;clear hh1
 exact qdk c (fun _=>by simp) (by first|exact .inl rfl|exact .inr rfl) rfl htt (fun e=>by have:=hnn e;simp only[wa]at this;omega) (by simpa only[we,wf,wg]using p1)
theorem prexpr_3 (e:PExpr) (hop:e.op=3) (hs:e.Small) (hr:qbp e.n) (ih:∀x∈e.kids,PrV 54 [.agg x.cells] x.words):PrW 54 [.agg e.cells] (e.words):=by
 intro ws tk h c hb
 have p0:=c.at
 have hpos:0<h.length:=by
  cases tk with
  |none=>exact(wd.1 p0.2).1
  |some t=>exact(wd.1 p0.1).1
 have hwd:e.words=[e.name]:=by rw[qeb,hop];rfl
 rw[hwd]at hb ⊢
 have b_0:(h++[Blk.box e.cells])[h.length]? =some (.box e.cells):=qcq _ _
 refine qdt rfl Tryz.func54 rfl (by kernel_rfl) (m:=136) rfl ?_;simp only[Z3,simprocAttr,Tryz.f54,effs,qb0,hop]
 obtain⟨E1,hE1,tt,htt,hnn,p1,o1,l1⟩:=qdx qaw (show PrW 59 [.slice [[.str e.name]] .full] [e.name]from qcs [e.name] (by simp)) rfl (p0.app [.box e.cells]) (by(try simp only[wa,wb,wc]at hb);(try simp only[wa,wb,wc]);omega)
 have b_1:(Eff.of (h++[.box e.cells]) E1)[h.length]? =some (.box e.cells):=o1 _ _ (by omega) b_0
 simp only[Z3,simprocAttr,effs,qb0,ty,b_1,hop,hE1]
 clear hE1;generalize hh1:Eff.of (h++[.box e.cells]) E1=h1 at*;clear hh1
 exact qdk c (fun _=>by simp) (by first|exact .inl rfl|exact .inr rfl) rfl htt (fun e=>by have:=hnn e;simp only[wa]at this;omega) (by simpa only[we,wf,wg]using p1)
theorem prexpr_4 (e:PExpr) (hop:e.op=4) (hs:e.Small) (hr:qbp e.n) (ih:∀x∈e.kids,PrV 54 [.agg x.cells] x.words):PrW 54 [.agg e.cells] (e.words):=by
 intro ws tk h c hb
 have p0:=c.at
 have hpos:0<h.length:=by
  cases tk with
  |none=>exact(wd.1 p0.2).1
  |some t=>exact(wd.1 p0.1).1
 have hwd:e.words=[e.name]:=by rw[qeb,hop];rfl
 rw[hwd]at hb ⊢
 have b_0:(h++[Blk.box e.cells])[h.length]? =some (.box e.cells):=qcq _ _
 refine qdt rfl Tryz.func54 rfl (by kernel_rfl) (m:=136) rfl ?_;simp only[Z3,simprocAttr,Tryz.f54,effs,qb0,hop]
 obtain⟨E1,hE1,tt,htt,hnn,p1,o1,l1⟩:=qdx qaw (show PrW 59 [.slice [[.str e.name]] .full] [e.name]from qcs [e.name] (by simp)) rfl (p0.app [.box e.cells]) (by(try simp only[wa,wb,wc]at hb);(try simp only[wa,wb,wc]);omega)
 have b_1:(Eff.of (h++[.box e.cells]) E1)[h.length]? =some (.box e.cells):=o1 _ _ (by omega) b_0
 simp only[Z3,simprocAttr,effs,qb0,ty,b_1,hop,hE1]
 clear hE1;generalize hh1:Eff.of (h++[.box e.cells]) E1=h1 at*;clear hh1
 exact qdk c (fun _=>by simp) (by first|exact .inl rfl|exact .inr rfl) rfl htt (fun e=>by have:=hnn e;simp only[wa]at this;omega) (by simpa only[we,wf,wg]using p1)
theorem prexpr_5 (e:PExpr) (hop:e.op=5) (hs:e.Small) (hr:qbp e.n) (ih:∀x∈e.kids,PrV 54 [.agg x.cells] x.words):PrW 54 [.agg e.cells] (e.words):=by
 intro ws tk h c hb
 have p0:=c.at
 have hpos:0<h.length:=by
  cases tk with
  |none=>exact(wd.1 p0.2).1
  |some t=>exact(wd.1 p0.1).1
 have hwd:e.words=[[40],e.name]++kidW e 0++[[41]]:=by rw[qeb,hop];rfl
 rw[hwd]at hb ⊢
 have k0:PrV 103 [.agg e.cells,.int .i64 0] (kidW e 0):=qow e 0 hs.kids.1 ih
 have b_0:(h++[Blk.box e.cells])[h.length]? =some (.box e.cells):=qcq _ _
 refine qdt rfl Tryz.func54 rfl (by kernel_rfl) (m:=136) rfl ?_;simp only[Z3,simprocAttr,Tryz.f54,effs,qb0,hop]
 obtain⟨E1,hE1,tt,htt,hnn,p1,o1,l1⟩:=qdx qaw (show PrW 59 [.slice [[.str [40]],[.str e.name]] .full] [[40],e.name]from qcs [[40],e.name] (by simp)) rfl (p0.app [.box e.cells]) (by(try simp only[wa,wb,wc]at hb);(try simp only[wa,wb,wc]);omega)
 have b_1:(Eff.of (h++[.box e.cells]) E1)[h.length]? =some (.box e.cells):=o1 _ _ (by omega) b_0
 simp only[Z3,simprocAttr,effs,qb0,ty,b_1,hop,hE1]
 clear hE1;generalize hh1:Eff.of (h++[.box e.cells]) E1=h1 at*;clear hh1
 obtain⟨E2,hE2,p2,o2,l2⟩:=qa7 qaw k0 (by simp[qad,refs,e.norefs]) p1 (by(try simp only[wa,wb,wc]at hb);(try simp only[wa,wb,wc]);omega)
 have b_2:(Eff.of h1 E2)[h.length]? =some (.box e.cells):=o2 _ _ (by omega) b_1
 simp only[Z3,simprocAttr,effs,qb0,ty,b_2,hop,hE2]
 clear hE2;generalize hh2:Eff.of h1 E2=h2 at*;clear hh2
 obtain⟨E3,hE3,p3,o3,l3⟩:=qa7 qaw (show PrW 59 [.slice [[.str [41]]] .full] [[41]]from qcs [[41]] (by simp)).own rfl p2 (by(try simp only[wa,wb,wc]at hb);(try simp only[wa,wb,wc]);omega)
 have b_3:(Eff.of h2 E3)[h.length]? =some (.box e.cells):=o3 _ _ (by omega) b_2
 simp only[Z3,simprocAttr,effs,qb0,ty,b_3,hop,hE3]
 clear hE3;generalize hh3:Eff.of h2 E3=h3 at*;clear hh3
 exact qdk c (fun _=>by simp) (by first|exact .inl rfl|exact .inr rfl) rfl htt (fun e=>by have:=hnn e;simp only[wa]at this;omega) (by simpa only[we,wf,wg]using p3)
theorem prexpr_6 (e:PExpr) (hop:e.op=6) (hs:e.Small) (hr:qbp e.n) (ih:∀x∈e.kids,PrV 54 [.agg x.cells] x.words):PrW 54 [.agg e.cells] (e.words):=by
 intro ws tk h c hb
 have p0:=c.at
 have hpos:0<h.length:=by
  cases tk with
  |none=>exact(wd.1 p0.2).1
  |some t=>exact(wd.1 p0.1).1
 have hwd:e.words=btwW (kidW e 0) e.name (kidW e 1):=by rw[qeb,hop];rfl
 rw[hwd]at hb ⊢
 have b_0:(h++[Blk.box e.cells])[h.length]? =some (.box e.cells):=qcq _ _
 refine qdt rfl Tryz.func54 rfl (by kernel_rfl) (m:=136) rfl ?_;simp only[Z3,simprocAttr,Tryz.f54,effs,qb0,hop]
 obtain⟨E1,hE1,tt,htt,hnn,p1,o1,l1⟩:=qdx qaw (qox e e.name hs.kids.1 ih) (by simp[qad,refs,e.norefs]) (p0.app [.box e.cells]) (by(try simp only[wa,wb,wc]at hb);(try simp only[wa,wb,wc]);omega)
 have b_1:(Eff.of (h++[.box e.cells]) E1)[h.length]? =some (.box e.cells):=o1 _ _ (by omega) b_0
 simp only[Z3,simprocAttr,effs,qb0,ty,b_1,hop,hE1]
 clear hE1;generalize hh1:Eff.of (h++[.box e.cells]) E1=h1 at*;clear hh1
 exact qdk c (fun _=>by simp[btwW]) (by first|exact .inl rfl|exact .inr rfl) rfl htt (fun e=>by have:=hnn e;simp only[wa]at this;omega) (by simpa only[we,wf,wg]using p1)
theorem prexpr_7 (e:PExpr) (hop:e.op=7) (hs:e.Small) (hr:qbp e.n) (ih:∀x∈e.kids,PrV 54 [.agg x.cells] x.words):PrW 54 [.agg e.cells] (e.words):=by
 intro ws tk h c hb
 have p0:=c.at
 have hpos:0<h.length:=by
  cases tk with
  |none=>exact(wd.1 p0.2).1
  |some t=>exact(wd.1 p0.1).1
 have hwd:e.words=[[40],[105,102]]++kidW e 0++[[116,104,101,110]]++kidW e 1++[[101,108,115,101]]++kidW e 2++[[41]]:=by rw[qeb,hop];rfl
 rw[hwd]at hb ⊢
 have k0:PrV 103 [.agg e.cells,.int .i64 0] (kidW e 0):=qow e 0 hs.kids.1 ih
 have k1:PrV 103 [.agg e.cells,.int .i64 1] (kidW e 1):=qow e 1 hs.kids.1 ih
 have k2:PrV 103 [.agg e.cells,.int .i64 2] (kidW e 2):=qow e 2 hs.kids.1 ih
 have b_0:(h++[Blk.box e.cells])[h.length]? =some (.box e.cells):=qcq _ _
 refine qdt rfl Tryz.func54 rfl (by kernel_rfl) (m:=136) rfl ?_;simp only[Z3,simprocAttr,Tryz.f54,effs,qb0,hop]
 obtain⟨E1,hE1,tt,htt,hnn,p1,o1,l1⟩:=qdx qaw (show PrW 59 [.slice [[.str [40]],[.str [105,102]]] .full] [[40],[105,102]]from qcs [[40],[105,102]] (by simp)) rfl (p0.app [.box e.cells]) (by(try simp only[wa,wb,wc]at hb);(try simp only[wa,wb,wc]);omega)
 have b_1:(Eff.of (h++[.box e.cells]) E1)[h.length]? =some (.box e.cells):=o1 _ _ (by omega) b_0
 simp only[Z3,simprocAttr,effs,qb0,ty,b_1,hop,hE1]
 clear hE1;generalize hh1:Eff.of (h++[.box e.cells]) E1=h1 at*;clear hh1
 obtain⟨E2,hE2,p2,o2,l2⟩:=qa7 qaw k0 (by simp[qad,refs,e.norefs]) p1 (by(try simp only[wa,wb,wc]at hb);(try simp only[wa,wb,wc]);omega)
 have b_2:(Eff.of h1 E2)[h.length]? =some (.box e.cells):=o2 _ _ (by omega) b_1
 simp only[Z3,simprocAttr,effs,qb0,ty,b_2,hop,hE2]
 clear hE2;generalize hh2:Eff.of h1 E2=h2 at*;clear hh2
 obtain⟨E3,hE3,p3,o3,l3⟩:=qa7 qaw (show PrW 59 [.slice [[.str [116,104,101,110]]] .full] [[116,104,101,110]]from qcs [[116,104,101,110]] (by simp)).own rfl p2 (by(try simp only[wa,wb,wc]at hb);(try simp only[wa,wb,wc]);omega)
 have b_3:(Eff.of h2 E3)[h.length]? =some (.box e.cells):=o3 _ _ (by omega) b_2
 simp only[Z3,simprocAttr,effs,qb0,ty,b_3,hop,hE3]
 clear hE3;generalize hh3:Eff.of h2 E3=h3 at*;clear hh3
 obtain⟨E4,hE4,p4,o4,l4⟩:=qa7 qaw k1 (by simp[qad,refs,e.norefs]) p3 (by(try simp only[wa,wb,wc]at hb);(try simp only[wa,wb,wc]);omega)
 have b_4:(Eff.of h3 E4)[h.length]? =some (.box e.cells):=o4 _ _ (by omega) b_3
 simp only[Z3,simprocAttr,effs,qb0,ty,b_4,hop,hE4]
 clear hE4;generalize hh4:Eff.of h3 E4=h4 at*;clear hh4
 obtain⟨E5,hE5,p5,o5,l5⟩:=qa7 qaw (show PrW 59 [.slice [[.str [101,108,115,101]]] .full] [[101,108,115,101]]from qcs [[101,108,115,101]] (by simp)).own rfl p4 (by(try simp only[wa,wb,wc]at hb);(try simp only[wa,wb,wc]);omega)
 have b_5:(Eff.of h4 E5)[h.length]? =some (.box e.cells):=o5 _ _ (by omega) b_4
 simp only[Z3,simprocAttr,effs,qb0,ty,b_5,hop,hE5]
 clear hE5;generalize hh5:Eff.of h4 E5=h5 at*;clear hh5
 obtain⟨E6,hE6,p6,o6,l6⟩:=qa7 qaw k2 (by simp[qad,refs,e.norefs]) p5 (by(try simp only[wa,wb,wc]at hb);(try simp only[wa,wb,wc]);omega)
 have b_6:(Eff.of h5 E6)[h.length]? =some (.box e.cells):=o6 _ _ (by omega) b_5
 simp only[Z3,simprocAttr,effs,qb0,ty,b_6,hop,hE6]
 clear hE6;generalize hh6:Eff.of h5 E6=h6 at*;clear hh6
 obtain⟨E7,hE7,p7,o7,l7⟩:=qa7 qaw (show PrW 59 [.slice [[.str [41]]] .full] [[41]]from qcs [[41]] (by simp)).own rfl p6 (by(try simp only[wa,wb,wc]at hb);(try simp only[wa,wb,wc]);omega)
 have b_7:(Eff.of h6 E7)[h.length]? =some (.box e.cells):=o7 _ _ (by omega) b_6
 simp only[Z3,simprocAttr,effs,qb0,ty,b_7,hop,hE7]
 clear hE7;generalize hh7:Eff.of h6 E7=h7 at*;clear hh7
 exact qdk c (fun _=>by simp) (by first|exact .inl rfl|exact .inr rfl) rfl htt (fun e=>by have:=hnn e;simp only[wa]at this;omega) (by simpa only[we,wf,wg]using p7)
theorem prexpr_8 (e:PExpr) (hop:e.op=8) (hs:e.Small) (hr:qbp e.n) (ih:∀x∈e.kids,PrV 54 [.agg x.cells] x.words):PrW 54 [.agg e.cells] (e.words):=by
 intro ws tk h c hb
 have p0:=c.at
 have hpos:0<h.length:=by
  cases tk with
  |none=>exact(wd.1 p0.2).1
  |some t=>exact(wd.1 p0.1).1
 have hwd:e.words=btwW (kidW e 0) [102,98,121] (kidW e 1):=by rw[qeb,hop];rfl
 rw[hwd]at hb ⊢
 have b_0:(h++[Blk.box e.cells])[h.length]? =some (.box e.cells):=qcq _ _
 refine qdt rfl Tryz.func54 rfl (by kernel_rfl) (m:=136) rfl ?_;simp only[Z3,simprocAttr,Tryz.f54,effs,qb0,hop]
 obtain⟨E1,hE1,tt,htt,hnn,p1,o1,l1⟩:=qdx qaw (qox e [102,98,121] hs.kids.1 ih) (by simp[qad,refs,e.norefs]) (p0.app [.box e.cells]) (by(try simp only[wa,wb,wc]at hb);(try simp only[wa,wb,wc]);omega)
 have b_1:(Eff.of (h++[.box e.cells]) E1)[h.length]? =some (.box e.cells):=o1 _ _ (by omega) b_0
 simp only[Z3,simprocAttr,effs,qb0,ty,b_1,hop,hE1]
 clear hE1;generalize hh1:Eff.of (h++[.box e.cells]) E1=h1 at*;clear hh1
 exact qdk c (fun _=>by simp[btwW]) (by first|exact .inl rfl|exact .inr rfl) rfl htt (fun e=>by have:=hnn e;simp only[wa]at this;omega) (by simpa only[we,wf,wg]using p1)
theorem prexpr_9 (e:PExpr) (hop:e.op=9) (hs:e.Small) (hr:qbp e.n) (ih:∀x∈e.kids,PrV 54 [.agg x.cells] x.words):PrW 54 [.agg e.cells] (e.words):=by
 intro ws tk h c hb
 have p0:=c.at
 have hpos:0<h.length:=by
  cases tk with
  |none=>exact(wd.1 p0.2).1
  |some t=>exact(wd.1 p0.1).1
 have hwd:e.words=[[40],[112,114,101]]++kidW e 0++[[41]]:=by rw[qeb,hop];rfl
 rw[hwd]at hb ⊢
 have k0:PrV 103 [.agg e.cells,.int .i64 0] (kidW e 0):=qow e 0 hs.kids.1 ih
 have b_0:(h++[Blk.box e.cells])[h.length]? =some (.box e.cells):=qcq _ _
 refine qdt rfl Tryz.func54 rfl (by kernel_rfl) (m:=136) rfl ?_;simp only[Z3,simprocAttr,Tryz.f54,effs,qb0,hop]
 obtain⟨E1,hE1,tt,htt,hnn,p1,o1,l1⟩:=qdx qaw (show PrW 59 [.slice [[.str [40]],[.str [112,114,101]]] .full] [[40],[112,114,101]]from qcs [[40],[112,114,101]] (by simp)) rfl (p0.app [.box e.cells]) (by(try simp only[wa,wb,wc]at hb);(try simp only[wa,wb,wc]);omega)
 have b_1:(Eff.of (h++[.box e.cells]) E1)[h.length]? =some (.box e.cells):=o1 _ _ (by omega) b_0
 simp only[Z3,simprocAttr,effs,qb0,ty,b_1,hop,hE1]
 clear hE1;generalize hh1:Eff.of (h++[.box e.cells]) E1=h1 at*;clear hh1
 obtain⟨E2,hE2,p2,o2,l2⟩:=qa7 qaw k0 (by simp[qad,refs,e.norefs]) p1 (by(try simp only[wa,wb,wc]at hb);(try simp only[wa,wb,wc]);omega)
 have b_2:(Eff.of h1 E2)[h.length]? =some (.box e.cells):=o2 _ _ (by omega) b_1
 simp only[Z3,simprocAttr,effs,qb0,ty,b_2,hop,hE2]
 clear hE2;generalize hh2:Eff.of h1 E2=h2 at*;clear hh2
 obtain⟨E3,hE3,p3,o3,l3⟩:=qa7 qaw (show PrW 59 [.slice [[.str [41]]] .full] [[41]]from qcs [[41]] (by simp)).own rfl p2 (by(try simp only[wa,wb,wc]at hb);(try simp only[wa,wb,wc]);omega)
 have b_3:(Eff.of h2 E3)[h.length]? =some (.box e.cells):=o3 _ _ (by omega) b_2
 simp only[Z3,simprocAttr,effs,qb0,ty,b_3,hop,hE3]
 clear hE3;generalize hh3:Eff.of h2 E3=h3 at*;clear hh3
 exact qdk c (fun _=>by simp) (by first|exact .inl rfl|exact .inr rfl) rfl htt (fun e=>by have:=hnn e;simp only[wa]at this;omega) (by simpa only[we,wf,wg]using p3)
theorem prexpr_10 (e:PExpr) (hop:e.op=10) (hs:e.Small) (hr:qbp e.n) (ih:∀x∈e.kids,PrV 54 [.agg x.cells] x.words):PrW 54 [.agg e.cells] (e.words):=by
 intro ws tk h c hb
 have p0:=c.at
 have hpos:0<h.length:=by
  cases tk with
  |none=>exact(wd.1 p0.2).1
  |some t=>exact(wd.1 p0.1).1
 have hwd:e.words=btwW (kidW e 0) [45,62] (kidW e 1):=by rw[qeb,hop];rfl
 rw[hwd]at hb ⊢
 have b_0:(h++[Blk.box e.cells])[h.length]? =some (.box e.cells):=qcq _ _
 refine qdt rfl Tryz.func54 rfl (by kernel_rfl) (m:=136) rfl ?_;simp only[Z3,simprocAttr,Tryz.f54,effs,qb0,hop]
 obtain⟨E1,hE1,tt,htt,hnn,p1,o1,l1⟩:=qdx qaw (qox e [45,62] hs.kids.1 ih) (by simp[qad,refs,e.norefs]) (p0.app [.box e.cells]) (by(try simp only[wa,wb,wc]at hb);(try simp only[wa,wb,wc]);omega)
 have b_1:(Eff.of (h++[.box e.cells]) E1)[h.length]? =some (.box e.cells):=o1 _ _ (by omega) b_0
 simp only[Z3,simprocAttr,effs,qb0,ty,b_1,hop,hE1]
 clear hE1;generalize hh1:Eff.of (h++[.box e.cells]) E1=h1 at*;clear hh1
 exact qdk c (fun _=>by simp[btwW]) (by first|exact .inl rfl|exact .inr rfl) rfl htt (fun e=>by have:=hnn e;simp only[wa]at this;omega) (by simpa only[we,wf,wg]using p1)
theorem prexpr_11 (e:PExpr) (hop:e.op=11) (hs:e.Small) (hr:qbp e.n) (ih:∀x∈e.kids,PrV 54 [.agg x.cells] x.words):PrW 54 [.agg e.cells] (e.words):=by
 intro ws tk h c hb
 have p0:=c.at
 have hpos:0<h.length:=by
  cases tk with
  |none=>exact(wd.1 p0.2).1
  |some t=>exact(wd.1 p0.1).1
 have hwd:e.words=[[40]]++kidW e 0++[[119,104,101,110]]++qik e.cons [44]++[[40],e.name,[41],[41]]:=by rw[qeb,hop];rfl
 rw[hwd]at hb ⊢
 have k0:PrV 103 [.agg e.cells,.int .i64 0] (kidW e 0):=qow e 0 hs.kids.1 ih
 have klist:PrV 60 [qag e.cons,.str [44]] (qik e.cons [44]):=list_c e.cons [44] hs.cons.1
 have b_0:(h++[Blk.box e.cells])[h.length]? =some (.box e.cells):=qcq _ _
 refine qdt rfl Tryz.func54 rfl (by kernel_rfl) (m:=136) rfl ?_;simp only[Z3,simprocAttr,Tryz.f54,effs,qb0,hop]
 obtain⟨E1,hE1,tt,htt,hnn,p1,o1,l1⟩:=qdx qaw (show PrW 59 [.slice [[.str [40]]] .full] [[40]]from qcs [[40]] (by simp)) rfl (p0.app [.box e.cells]) (by(try simp only[wa,wb,wc]at hb);(try simp only[wa,wb,wc]);omega)
 have b_1:(Eff.of (h++[.box e.cells]) E1)[h.length]? =some (.box e.cells):=o1 _ _ (by omega) b_0
 simp only[Z3,simprocAttr,effs,qb0,ty,b_1,hop,hE1]
 clear hE1;generalize hh1:Eff.of (h++[.box e.cells]) E1=h1 at*;clear hh1
 obtain⟨E2,hE2,p2,o2,l2⟩:=qa7 qaw k0 (by simp[qad,refs,e.norefs]) p1 (by(try simp only[wa,wb,wc]at hb);(try simp only[wa,wb,wc]);omega)
 have b_2:(Eff.of h1 E2)[h.length]? =some (.box e.cells):=o2 _ _ (by omega) b_1
 simp only[Z3,simprocAttr,effs,qb0,ty,b_2,hop,hE2]
 clear hE2;generalize hh2:Eff.of h1 E2=h2 at*;clear hh2
 obtain⟨E3,hE3,p3,o3,l3⟩:=qa7 qaw (show PrW 59 [.slice [[.str [119,104,101,110]]] .full] [[119,104,101,110]]from qcs [[119,104,101,110]] (by simp)).own rfl p2 (by(try simp only[wa,wb,wc]at hb);(try simp only[wa,wb,wc]);omega)
 have b_3:(Eff.of h2 E3)[h.length]? =some (.box e.cells):=o3 _ _ (by omega) b_2
 simp only[Z3,simprocAttr,effs,qb0,ty,b_3,hop,hE3]
 clear hE3;generalize hh3:Eff.of h2 E3=h3 at*;clear hh3
 obtain⟨E4,hE4,p4,o4,l4⟩:=qa7 qaw klist rfl p3 (by(try simp only[wa,wb,wc]at hb);(try simp only[wa,wb,wc]);omega)
 have b_4:(Eff.of h3 E4)[h.length]? =some (.box e.cells):=o4 _ _ (by omega) b_3
 simp only[Z3,simprocAttr,effs,qb0,ty,b_4,hop,hE4]
 clear hE4;generalize hh4:Eff.of h3 E4=h4 at*;clear hh4
 obtain⟨E5,hE5,p5,o5,l5⟩:=qa7 qaw (show PrW 59 [.slice [[.str [40]],[.str e.name],[.str [41]],[.str [41]]] .full] [[40],e.name,[41],[41]]from qcs [[40],e.name,[41],[41]] (by simp)).own rfl p4 (by(try simp only[wa,wb,wc]at hb);(try simp only[wa,wb,wc]);omega)
 have b_5:(Eff.of h4 E5)[h.length]? =some (.box e.cells):=o5 _ _ (by omega) b_4
 simp only[Z3,simprocAttr,effs,qb0,ty,b_5,hop,hE5]
 clear hE5;generalize hh5:Eff.of h4 E5=h5 at*;clear hh5
 exact qdk c (fun _=>by simp) (by first|exact .inl rfl|exact .inr rfl) rfl htt (fun e=>by have:=hnn e;simp only[wa]at this;omega) (by simpa only[we,wf,wg]using p5)
theorem prexpr_12 (e:PExpr) (hop:e.op=12) (hs:e.Small) (hr:qbp e.n) (ih:∀x∈e.kids,PrV 54 [.agg x.cells] x.words):PrW 54 [.agg e.cells] (e.words):=by
 intro ws tk h c hb
 have p0:=c.at
 have hpos:0<h.length:=by
  cases tk with
  |none=>exact(wd.1 p0.2).1
  |some t=>exact(wd.1 p0.1).1
 have hwd:e.words=qk2 [109,101,114,103,101] e.name e.cons (e.kids.map PExpr.words):=by rw[qeb,hop];rfl
 rw[hwd]at hb ⊢
 have b_0:(h++[Blk.box e.cells])[h.length]? =some (.box e.cells):=qcq _ _
 refine qdt rfl Tryz.func54 rfl (by kernel_rfl) (m:=136) rfl ?_;simp only[Z3,simprocAttr,Tryz.f54,effs,qb0,hop]
 obtain⟨E1,hE1,tt,htt,hnn,p1,o1,l1⟩:=qdx qaw (arms_c e [109,101,114,103,101] hs ih) (by simp[qad,refs,e.norefs]) (p0.app [.box e.cells]) (by(try simp only[wa,wb,wc]at hb);(try simp only[wa,wb,wc]);omega)
 have b_1:(Eff.of (h++[.box e.cells]) E1)[h.length]? =some (.box e.cells):=o1 _ _ (by omega) b_0
 simp only[Z3,simprocAttr,effs,qb0,ty,b_1,hop,hE1]
 clear hE1;generalize hh1:Eff.of (h++[.box e.cells]) E1=h1 at*;clear hh1
 exact qdk c (fun _=>by simp[qk2]) (by first|exact .inl rfl|exact .inr rfl) rfl htt (fun e=>by have:=hnn e;simp only[wa]at this;omega) (by simpa only[we,wf,wg]using p1)
theorem prexpr_13 (e:PExpr) (hop:e.op=13) (hs:e.Small) (hr:qbp e.n) (ih:∀x∈e.kids,PrV 54 [.agg x.cells] x.words):PrW 54 [.agg e.cells] (e.words):=by
 intro ws tk h c hb
 have p0:=c.at
 have hpos:0<h.length:=by
  cases tk with
  |none=>exact(wd.1 p0.2).1
  |some t=>exact(wd.1 p0.1).1
 have hwd:e.words=qk2 [109,97,116,99,104] e.name e.cons (e.kids.map PExpr.words):=by rw[qeb,hop];rfl
 rw[hwd]at hb ⊢
 have b_0:(h++[Blk.box e.cells])[h.length]? =some (.box e.cells):=qcq _ _
 refine qdt rfl Tryz.func54 rfl (by kernel_rfl) (m:=136) rfl ?_;simp only[Z3,simprocAttr,Tryz.f54,effs,qb0,hop]
 obtain⟨E1,hE1,tt,htt,hnn,p1,o1,l1⟩:=qdx qaw (arms_c e [109,97,116,99,104] hs ih) (by simp[qad,refs,e.norefs]) (p0.app [.box e.cells]) (by(try simp only[wa,wb,wc]at hb);(try simp only[wa,wb,wc]);omega)
 have b_1:(Eff.of (h++[.box e.cells]) E1)[h.length]? =some (.box e.cells):=o1 _ _ (by omega) b_0
 simp only[Z3,simprocAttr,effs,qb0,ty,b_1,hop,hE1]
 clear hE1;generalize hh1:Eff.of (h++[.box e.cells]) E1=h1 at*;clear hh1
 exact qdk c (fun _=>by simp[qk2]) (by first|exact .inl rfl|exact .inr rfl) rfl htt (fun e=>by have:=hnn e;simp only[wa]at this;omega) (by simpa only[we,wf,wg]using p1)
theorem prexpr_14 (e:PExpr) (hop:e.op=14) (hs:e.Small) (hr:qbp e.n) (ih:∀x∈e.kids,PrV 54 [.agg x.cells] x.words):PrW 54 [.agg e.cells] (e.words):=by
 intro ws tk h c hb
 have p0:=c.at
 have hpos:0<h.length:=by
  cases tk with
  |none=>exact(wd.1 p0.2).1
  |some t=>exact(wd.1 p0.1).1
 have hwd:e.words=qrm e.name e.cons (e.kids.map PExpr.words):=by rw[qeb,hop];rfl
 rw[hwd]at hb ⊢
 have b_0:(h++[Blk.box e.cells])[h.length]? =some (.box e.cells):=qcq _ _
 refine qdt rfl Tryz.func54 rfl (by kernel_rfl) (m:=136) rfl ?_;simp only[Z3,simprocAttr,Tryz.f54,effs,qb0,hop]
 obtain⟨E1,hE1,tt,htt,hnn,p1,o1,l1⟩:=qdx qaw (call_c e hs ih) (by simp[qad,refs,e.norefs]) (p0.app [.box e.cells]) (by(try simp only[wa,wb,wc]at hb);(try simp only[wa,wb,wc]);omega)
 have b_1:(Eff.of (h++[.box e.cells]) E1)[h.length]? =some (.box e.cells):=o1 _ _ (by omega) b_0
 simp only[Z3,simprocAttr,effs,qb0,ty,b_1,hop,hE1]
 clear hE1;generalize hh1:Eff.of (h++[.box e.cells]) E1=h1 at*;clear hh1
 exact qdk c (fun _=>by simp[qrm]) (by first|exact .inl rfl|exact .inr rfl) rfl htt (fun e=>by have:=hnn e;simp only[wa]at this;omega) (by simpa only[we,wf,wg]using p1)
theorem prexpr_15 (e:PExpr) (hop:e.op=15) (hs:e.Small) (hr:qbp e.n) (ih:∀x∈e.kids,PrV 54 [.agg x.cells] x.words):PrW 54 [.agg e.cells] (e.words):=by
 intro ws tk h c hb
 have p0:=c.at
 have hpos:0<h.length:=by
  cases tk with
  |none=>exact(wd.1 p0.2).1
  |some t=>exact(wd.1 p0.1).1
 have hwd:e.words=btwW (kidW e 0) [101,118,101,114,121] (kidW e 1):=by rw[qeb,hop];rfl
 rw[hwd]at hb ⊢
 have b_0:(h++[Blk.box e.cells])[h.length]? =some (.box e.cells):=qcq _ _
 refine qdt rfl Tryz.func54 rfl (by kernel_rfl) (m:=136) rfl ?_;simp only[Z3,simprocAttr,Tryz.f54,effs,qb0,hop]
 obtain⟨E1,hE1,tt,htt,hnn,p1,o1,l1⟩:=qdx qaw (qox e [101,118,101,114,121] hs.kids.1 ih) (by simp[qad,refs,e.norefs]) (p0.app [.box e.cells]) (by(try simp only[wa,wb,wc]at hb);(try simp only[wa,wb,wc]);omega)
 have b_1:(Eff.of (h++[.box e.cells]) E1)[h.length]? =some (.box e.cells):=o1 _ _ (by omega) b_0
 simp only[Z3,simprocAttr,effs,qb0,ty,b_1,hop,hE1]
 clear hE1;generalize hh1:Eff.of (h++[.box e.cells]) E1=h1 at*;clear hh1
 exact qdk c (fun _=>by simp[btwW]) (by first|exact .inl rfl|exact .inr rfl) rfl htt (fun e=>by have:=hnn e;simp only[wa]at this;omega) (by simpa only[we,wf,wg]using p1)
theorem q3o (e:PExpr) (h0:∀i∈[1,2,3,4,5,6,7,8,9,10,11,12,13,14,15],e.op≠i):PrW 54 [.agg e.cells] (e.words):=by
 intro ws tk h c hb
 have p0:=c.at
 have hpos:0<h.length:=by
  cases tk with
  |none=>exact(wd.1 p0.2).1
  |some t=>exact(wd.1 p0.1).1
 have hbq:∀i∈[1,2,3,4,5,6,7,8,9,10,11,12,13,14,15],(e.op==i)=false:=fun i hi=>beq_false_of_ne (h0 i hi)
 simp only[wh]at hbq h0
 obtain⟨g1,g2,g3,g4,g5,g6,g7,g8,g9,g10,g11,g12,g13,g14,g15,-⟩:=h0
 obtain⟨q1,q2,q3,q4,q5,q6,q7,q8,q9,q10,q11,q12,q13,q14,q15,-⟩:=hbq
 have hwd:e.words=[[63]]:=by
  rw[qeb];unfold qp5
  rw[if_neg g1,if_neg g2,if_neg g3,if_neg g4,if_neg g5,if_neg g6,if_neg g7,if_neg g8,if_neg g10,if_neg g15,if_neg g9,if_neg g11,if_neg g12,if_neg g13,if_neg g14]
 rw[hwd]at hb ⊢
 refine qdt rfl Tryz.func54 rfl (by kernel_rfl) (m:=136) rfl ?_;simp only[Z3,simprocAttr,Tryz.f54,effs,qb0,q1,q2,q3,q4,q5,q6,q7,q8,q9,q10,q11,q12,q13,q14,q15]
 obtain⟨E1,hE1,tt,htt,hnn,p1,o1,l1⟩:=qdx qaw (show PrW 59 [.slice [[.str [63]]] .full] [[63]]from qcs [[63]] (by simp)) rfl (p0.app [.box e.cells]) (by(try simp only[wa,wb,wc]at hb);(try simp only[wa,wb,wc]);omega)
 simp only[Z3,simprocAttr,effs,qb0,ty,hE1]
 clear hE1;generalize hh1:Eff.of (h++[.box e.cells]) E1=h1 at*;clear hh1
 exact qdk c (fun _=>by simp) (by first|exact .inl rfl|exact .inr rfl) rfl htt (fun e=>by have:=hnn e;simp only[wa]at this;omega) (by simpa only[we,wf,wg]using p1)
theorem prexpr_c (e:PExpr):e.Small→e.Rng→PrW 54 [.agg e.cells] e.words:=by
 induction e using PExpr.induct with
 |h op name n cons kids ih=>
  intro hs hr
  obtain⟨e,he⟩:∃e,e=PExpr.mk op name n cons kids:=⟨_,rfl⟩
  have hkr:∀x∈kids,x.Rng:=by cases hr;assumption
  have hnr:qbp n:=by cases hr;assumption
  rw[←he]at hs ⊢
  have hkids:e.kids=kids:=by rw[he];rfl
  have ih':∀x∈e.kids,PrV 54 [.agg x.cells] x.words:=fun x hx=>(ih x (hkids▸hx) (hs.kids.2 x hx) (hkr x (hkids▸hx))).own
  have hn:qbp e.n:=by rw[he];exact hnr
  by_cases h:∀i∈[1,2,3,4,5,6,7,8,9,10,11,12,13,14,15],e.op≠i
  ·exact q3o e h
  ·simp only[wh,Classical.not_and_iff_not_or_not,Classical.not_not,ne_eq]at h
   rcases h with h|h|h|h|h|h|h|h|h|h|h|h|h|h|h|h
   ·exact prexpr_1 e h hs hn ih'
   ·exact prexpr_2 e h hs hn ih'
   ·exact prexpr_3 e h hs hn ih'
   ·exact prexpr_4 e h hs hn ih'
   ·exact prexpr_5 e h hs hn ih'
   ·exact prexpr_6 e h hs hn ih'
   ·exact prexpr_7 e h hs hn ih'
   ·exact prexpr_8 e h hs hn ih'
   ·exact prexpr_9 e h hs hn ih'
   ·exact prexpr_10 e h hs hn ih'
   ·exact prexpr_11 e h hs hn ih'
   ·exact prexpr_12 e h hs hn ih'
   ·exact prexpr_13 e h hs hn ih'
   ·exact prexpr_14 e h hs hn ih'
   ·exact prexpr_15 e h hs hn ih'
   ·exact absurd (fun _ hx=>by cases hx) h
end Go.Ab
