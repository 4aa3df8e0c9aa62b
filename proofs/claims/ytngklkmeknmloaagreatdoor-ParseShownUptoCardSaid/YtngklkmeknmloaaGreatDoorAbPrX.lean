/- The parser: what stands ahead of an operand. -/
import Derived.Test.YtngklkmeknmloaaGreatDoorAbInv
import Derived.Test.YtngklkmeknmloaaGreatDoorAbRead
import Derived.Test.YtngklkmeknmloaaGreatDoorAbSize
set_option linter.unusedSimpArgs false
set_option linter.unusedVariables false
set_option maxRecDepth 100000
set_option maxHeartbeats 4000000
open Go.Proofs
open List renaming length_append→wa,length_cons→wb,length_nil→wc,getElem?_eq_some_iff→wd,cons_append→we,append_assoc→wf,nil_append→wg,map_cons→wi,sum_cons→wj,length_map→wm,forall_mem_cons→wo
open Bool renaming eq_false_iff→wh
open Nat renaming lt_one_iff→wk,add_mul→wq
namespace Go.Ab
open Go Go.Ab.Tab
theorem fmtInt_c (z:Int) (hz:qbr z):Ret C 101 [.int .i64 z,.int .i64 10] (.str (decB z)):=by
 refine Ret.mk rfl rfl ?_
 unfold C
 rw[quk ext_int]
 show(if -9223372036854775808≤z∧z≤9223372036854775807 then some (CR.ret (.str (decB z)) Eff.same)else none)=_
 obtain⟨h1,h2⟩:=hz
 rw[if_pos ⟨h1,h2⟩]
theorem fmtBool_c (b:Bool):Ret C 102 [.bool b] (.str (qnx b)):=by
 cases b<;>exact Ret.mk rfl rfl (C_of (n:=4) (by kernel_rfl))
theorem prexpr_1 (e:PExpr) (hop:e.op=1) (hs:e.Small) (hr:qbr e.n) (ih:∀x∈e.kids,PrV 54 [.agg x.cells] x.words):PrW 54 [.agg e.cells] (e.words):=by
 intro ws tk h c hb
 have p0:=c.at
 have hpos:0<h.length:=by
  cases tk with
  |none=>exact(wd.1 p0.2).1
  |some t=>exact(wd.1 p0.1).1
 have hwd:e.words=[decB e.n]:=by rw[qax,hop];rfl
 rw[hwd]at hb ⊢
 have c1:=fmtInt_c e.n hr
 have b_0:(h++[Blk.box e.cells])[h.length]? =some (.box e.cells):=qbs _ _
 refine qcy rfl Tryz.func54 rfl (by kernel_rfl) (m:=136) rfl ?_;simp only[Z3,simprocAttr,Tryz.f54,effs,qcb,hop,c1 _]
 obtain⟨E1,hE1,tt,htt,hnn,p1,o1,l1⟩:=qdb qao (show PrW 59 [.slice [[.str (decB e.n)]] .full] [(decB e.n)]from qbi [(decB e.n)] (by simp)) rfl (p0.app [.box e.cells]) (by(try simp only[wa,wb,wc]at hb);(try simp only[wa,wb,wc]);omega)
 have b_1:(Eff.of (h++[.box e.cells]) E1)[h.length]? =some (.box e.cells):=o1 _ _ (by omega) b_0
 simp only[Z3,simprocAttr,effs,qcb,ty,b_1,hop,hE1]
 clear hE1;generalize hh1:Eff.of (h++[.box e.cells]) E1=h1 at*;clear hh1
 exact qcr c (fun _=>by simp) (by first|exact .inl rfl|exact .inr rfl) rfl htt (fun e=>by have:=hnn e;simp only[wa]at this;omega) (by simpa only[wf,we,wg]using p1)
theorem prexpr_2 (e:PExpr) (hop:e.op=2) (hs:e.Small) (hr:qbr e.n) (ih:∀x∈e.kids,PrV 54 [.agg x.cells] x.words):PrW 54 [.agg e.cells] (e.words):=by
 intro ws tk h c hb
 have p0:=c.at
 have hpos:0<h.length:=by
  cases tk with
  |none=>exact(wd.1 p0.2).1
  |some t=>exact(wd.1 p0.1).1
 have hwd:e.words=[qnx (e.n==1)]:=by rw[qax,hop];rfl
 rw[hwd]at hb ⊢
 have c1:=fmtBool_c (e.n==1)
 have b_0:(h++[Blk.box e.cells])[h.length]? =some (.box e.cells):=qbs _ _
 refine qcy rfl Tryz.func54 rfl (by kernel_rfl) (m:=136) rfl ?_;simp only[Z3,simprocAttr,Tryz.f54,effs,qcb,hop,c1 _]
 obtain⟨E1,hE1,tt,htt,hnn,p1,o1,l1⟩:=qdb qao (show PrW 59 [.slice [[.str (qnx (e.n==1))]] .full] [(qnx (e.n==1))]from qbi [(qnx (e.n==1))] (by simp)) rfl (p0.app [.box e.cells]) (by(try simp only[wa,wb,wc]at hb);(try simp only[wa,wb,wc]);omega)
 have b_1:(Eff.of (h++[.box e.cells]) E1)[h.length]? =some (.box e.cells):=o1 _ _ (by omega) b_0
 simp only[Z3,simprocAttr,effs,qcb,ty,b_1,hop,hE1]
 clear hE1;generalize hh1:Eff.of (h++[.box e.cells]) E1=h1 at*;clear hh1
 exact qcr c (fun _=>by simp) (by first|exact .inl rfl|exact .inr rfl) rfl htt (fun e=>by have:=hnn e;simp only[wa]at this;omega) (by simpa only[wf,we,wg]using p1)
theorem prexpr_3 (e:PExpr) (hop:e.op=3) (hs:e.Small) (hr:qbr e.n) (ih:∀x∈e.kids,PrV 54 [.agg x.cells] x.words):PrW 54 [.agg e.cells] (e.words):=by
 intro ws tk h c hb
 have p0:=c.at
 have hpos:0<h.length:=by
  cases tk with
  |none=>exact(wd.1 p0.2).1
  |some t=>exact(wd.1 p0.1).1
 have hwd:e.words=[e.name]:=by rw[qax,hop];rfl
 rw[hwd]at hb ⊢
 have b_0:(h++[Blk.box e.cells])[h.length]? =some (.box e.cells):=qbs _ _
 refine qcy rfl Tryz.func54 rfl (by kernel_rfl) (m:=136) rfl ?_;simp only[Z3,simprocAttr,Tryz.f54,effs,qcb,hop]
 obtain⟨E1,hE1,tt,htt,hnn,p1,o1,l1⟩:=qdb qao (show PrW 59 [.slice [[.str e.name]] .full] [e.name]from qbi [e.name] (by simp)) rfl (p0.app [.box e.cells]) (by(try simp only[wa,wb,wc]at hb);(try simp only[wa,wb,wc]);omega)
 have b_1:(Eff.of (h++[.box e.cells]) E1)[h.length]? =some (.box e.cells):=o1 _ _ (by omega) b_0
 simp only[Z3,simprocAttr,effs,qcb,ty,b_1,hop,hE1]
 clear hE1;generalize hh1:Eff.of (h++[.box e.cells]) E1=h1 at*;clear hh1
 exact qcr c (fun _=>by simp) (by first|exact .inl rfl|exact .inr rfl) rfl htt (fun e=>by have:=hnn e;simp only[wa]at this;omega) (by simpa only[wf,we,wg]using p1)
theorem prexpr_4 (e:PExpr) (hop:e.op=4) (hs:e.Small) (hr:qbr e.n) (ih:∀x∈e.kids,PrV 54 [.agg x.cells] x.words):PrW 54 [.agg e.cells] (e.words):=by
 intro ws tk h c hb
 have p0:=c.at
 have hpos:0<h.length:=by
  cases tk with
  |none=>exact(wd.1 p0.2).1
  |some t=>exact(wd.1 p0.1).1
 have hwd:e.words=[e.name]:=by rw[qax,hop];rfl
 rw[hwd]at hb ⊢
 have b_0:(h++[Blk.box e.cells])[h.length]? =some (.box e.cells):=qbs _ _
 refine qcy rfl Tryz.func54 rfl (by kernel_rfl) (m:=136) rfl ?_;simp only[Z3,simprocAttr,Tryz.f54,effs,qcb,hop]
 obtain⟨E1,hE1,tt,htt,hnn,p1,o1,l1⟩:=qdb qao (show PrW 59 [.slice [[.str e.name]] .full] [e.name]from qbi [e.name] (by simp)) rfl (p0.app [.box e.cells]) (by(try simp only[wa,wb,wc]at hb);(try simp only[wa,wb,wc]);omega)
 have b_1:(Eff.of (h++[.box e.cells]) E1)[h.length]? =some (.box e.cells):=o1 _ _ (by omega) b_0
 simp only[Z3,simprocAttr,effs,qcb,ty,b_1,hop,hE1]
 clear hE1;generalize hh1:Eff.of (h++[.box e.cells]) E1=h1 at*;clear hh1
 exact qcr c (fun _=>by simp) (by first|exact .inl rfl|exact .inr rfl) rfl htt (fun e=>by have:=hnn e;simp only[wa]at this;omega) (by simpa only[wf,we,wg]using p1)
theorem prexpr_5 (e:PExpr) (hop:e.op=5) (hs:e.Small) (hr:qbr e.n) (ih:∀x∈e.kids,PrV 54 [.agg x.cells] x.words):PrW 54 [.agg e.cells] (e.words):=by
 intro ws tk h c hb
 have p0:=c.at
 have hpos:0<h.length:=by
  cases tk with
  |none=>exact(wd.1 p0.2).1
  |some t=>exact(wd.1 p0.1).1
 have hwd:e.words=[[40],e.name]++kidW e 0++[[41]]:=by rw[qax,hop];rfl
 rw[hwd]at hb ⊢
 have k0:PrV 103 [.agg e.cells,.int .i64 0] (kidW e 0):=qph e 0 hs.kids.1 ih
 have b_0:(h++[Blk.box e.cells])[h.length]? =some (.box e.cells):=qbs _ _
 refine qcy rfl Tryz.func54 rfl (by kernel_rfl) (m:=136) rfl ?_;simp only[Z3,simprocAttr,Tryz.f54,effs,qcb,hop]
 obtain⟨E1,hE1,tt,htt,hnn,p1,o1,l1⟩:=qdb qao (show PrW 59 [.slice [[.str [40]],[.str e.name]] .full] [[40],e.name]from qbi [[40],e.name] (by simp)) rfl (p0.app [.box e.cells]) (by(try simp only[wa,wb,wc]at hb);(try simp only[wa,wb,wc]);omega)
 have b_1:(Eff.of (h++[.box e.cells]) E1)[h.length]? =some (.box e.cells):=o1 _ _ (by omega) b_0
 simp only[Z3,simprocAttr,effs,qcb,ty,b_1,hop,hE1]
 clear hE1;generalize hh1:Eff.of (h++[.box e.cells]) E1=h1 at*;clear hh1
 obtain⟨E2,hE2,p2,o2,l2⟩:=qal qao k0 (by simp[qad,refs,e.norefs]) p1 (by(try simp only[wa,wb,wc]at hb);(try simp only[wa,wb,wc]);omega)
 have b_2:(Eff.of h1 E2)[h.length]? =some (.box e.cells):=o2 _ _ (by omega) b_1
 simp only[Z3,simprocAttr,effs,qcb,ty,b_2,hop,hE2]
 clear hE2;generalize hh2:Eff.of h1 E2=h2 at*;clear hh2
 obtain⟨E3,hE3,p3,o3,l3⟩:=qal qao (show PrW 59 [.slice [[.str [41]]] .full] [[41]]from qbi [[41]] (by simp)).own rfl p2 (by(try simp only[wa,wb,wc]at hb);(try simp only[wa,wb,wc]);omega)
 have b_3:(Eff.of h2 E3)[h.length]? =some (.box e.cells):=o3 _ _ (by omega) b_2
 simp only[Z3,simprocAttr,effs,qcb,ty,b_3,hop,hE3]
 clear hE3;generalize hh3:Eff.of h2 E3=h3 at*;clear hh3
 exact qcr c (fun _=>by simp) (by first|exact .inl rfl|exact .inr rfl) rfl htt (fun e=>by have:=hnn e;simp only[wa]at this;omega) (by simpa only[wf,we,wg]using p3)
theorem prexpr_6 (e:PExpr) (hop:e.op=6) (hs:e.Small) (hr:qbr e.n) (ih:∀x∈e.kids,PrV 54 [.agg x.cells] x.words):PrW 54 [.agg e.cells] (e.words):=by
 intro ws tk h c hb
 have p0:=c.at
 have hpos:0<h.length:=by
  cases tk with
  |none=>exact(wd.1 p0.2).1
  |some t=>exact(wd.1 p0.1).1
 have hwd:e.words=btwW (kidW e 0) e.name (kidW e 1):=by rw[qax,hop];rfl
 rw[hwd]at hb ⊢
 have b_0:(h++[Blk.box e.cells])[h.length]? =some (.box e.cells):=qbs _ _
 refine qcy rfl Tryz.func54 rfl (by kernel_rfl) (m:=136) rfl ?_;simp only[Z3,simprocAttr,Tryz.f54,effs,qcb,hop]
 obtain⟨E1,hE1,tt,htt,hnn,p1,o1,l1⟩:=qdb qao (qpi e e.name hs.kids.1 ih) (by simp[qad,refs,e.norefs]) (p0.app [.box e.cells]) (by(try simp only[wa,wb,wc]at hb);(try simp only[wa,wb,wc]);omega)
 have b_1:(Eff.of (h++[.box e.cells]) E1)[h.length]? =some (.box e.cells):=o1 _ _ (by omega) b_0
 simp only[Z3,simprocAttr,effs,qcb,ty,b_1,hop,hE1]
 clear hE1;generalize hh1:Eff.of (h++[.box e.cells]) E1=h1 at*;clear hh1
 exact qcr c (fun _=>by simp[btwW]) (by first|exact .inl rfl|exact .inr rfl) rfl htt (fun e=>by have:=hnn e;simp only[wa]at this;omega) (by simpa only[wf,we,wg]using p1)
theorem prexpr_7 (e:PExpr) (hop:e.op=7) (hs:e.Small) (hr:qbr e.n) (ih:∀x∈e.kids,PrV 54 [.agg x.cells] x.words):PrW 54 [.agg e.cells] (e.words):=by
 intro ws tk h c hb
 have p0:=c.at
 have hpos:0<h.length:=by
  cases tk with
  |none=>exact(wd.1 p0.2).1
  |some t=>exact(wd.1 p0.1).1
 have hwd:e.words=[[40],[105,102]]++kidW e 0++[[116,104,101,110]]++kidW e 1++[[101,108,115,101]]++kidW e 2++[[41]]:=by rw[qax,hop];rfl
 rw[hwd]at hb ⊢
 have k0:PrV 103 [.agg e.cells,.int .i64 0] (kidW e 0):=qph e 0 hs.kids.1 ih
 have k1:PrV 103 [.agg e.cells,.int .i64 1] (kidW e 1):=qph e 1 hs.kids.1 ih
 have k2:PrV 103 [.agg e.cells,.int .i64 2] (kidW e 2):=qph e 2 hs.kids.1 ih
 have b_0:(h++[Blk.box e.cells])[h.length]? =some (.box e.cells):=qbs _ _
 refine qcy rfl Tryz.func54 rfl (by kernel_rfl) (m:=136) rfl ?_;simp only[Z3,simprocAttr,Tryz.f54,effs,qcb,hop]
 obtain⟨E1,hE1,tt,htt,hnn,p1,o1,l1⟩:=qdb qao (show PrW 59 [.slice [[.str [40]],[.str [105,102]]] .full] [[40],[105,102]]from qbi [[40],[105,102]] (by simp)) rfl (p0.app [.box e.cells]) (by(try simp only[wa,wb,wc]at hb);(try simp only[wa,wb,wc]);omega)
 have b_1:(Eff.of (h++[.box e.cells]) E1)[h.length]? =some (.box e.cells):=o1 _ _ (by omega) b_0
 simp only[Z3,simprocAttr,effs,qcb,ty,b_1,hop,hE1]
 clear hE1;generalize hh1:Eff.of (h++[.box e.cells]) E1=h1 at*;clear hh1
 obtain⟨E2,hE2,p2,o2,l2⟩:=qal qao k0 (by simp[qad,refs,e.norefs]) p1 (by(try simp only[wa,wb,wc]at hb);(try simp only[wa,wb,wc]);omega)
 have b_2:(Eff.of h1 E2)[h.length]? =some (.box e.cells):=o2 _ _ (by omega) b_1
 simp only[Z3,simprocAttr,effs,qcb,ty,b_2,hop,hE2]
 clear hE2;generalize hh2:Eff.of h1 E2=h2 at*;clear hh2
 obtain⟨E3,hE3,p3,o3,l3⟩:=qal qao (show PrW 59 [.slice [[.str [116,104,101,110]]] .full] [[116,104,101,110]]from qbi [[116,104,101,110]] (by simp)).own rfl p2 (by(try simp only[wa,wb,wc]at hb);(try simp only[wa,wb,wc]);omega)
 have b_3:(Eff.of h2 E3)[h.length]? =some (.box e.cells):=o3 _ _ (by omega) b_2
 simp only[Z3,simprocAttr,effs,qcb,ty,b_3,hop,hE3]
 clear hE3;generalize hh3:Eff.of h2 E3=h3 at*;clear hh3
 obtain⟨E4,hE4,p4,o4,l4⟩:=qal qao k1 (by simp[qad,refs,e.norefs]) p3 (by(try simp only[wa,wb,wc]at hb);(try simp only[wa,wb,wc]);omega)
 have b_4:(Eff.of h3 E4)[h.length]? =some (.box e.cells):=o4 _ _ (by omega) b_3
 simp only[Z3,simprocAttr,effs,qcb,ty,b_4,hop,hE4]
 clear hE4;generalize hh4:Eff.of h3 E4=h4 at*;clear hh4
 obtain⟨E5,hE5,p5,o5,l5⟩:=qal qao (show PrW 59 [.slice [[.str [101,108,115,101]]] .full] [[101,108,115,101]]from qbi [[101,108,115,101]] (by simp)).own rfl p4 (by(try simp only[wa,wb,wc]at hb);(try simp only[wa,wb,wc]);omega)
 have b_5:(Eff.of h4 E5)[h.length]? =some (.box e.cells):=o5 _ _ (by omega) b_4
 simp only[Z3,simprocAttr,effs,qcb,ty,b_5,hop,hE5]
 clear hE5;generalize hh5:Eff.of h4 E5=h5 at*;clear hh5
 obtain⟨E6,hE6,p6,o6,l6⟩:=qal qao k2 (by simp[qad,refs,e.norefs]) p5 (by(try simp only[wa,wb,wc]at hb);(try simp only[wa,wb,wc]);omega)
 have b_6:(Eff.of h5 E6)[h.length]? =some (.box e.cells):=o6 _ _ (by omega) b_5
 simp only[Z3,simprocAttr,effs,qcb,ty,b_6,hop,hE6]
 clear hE6;generalize hh6:Eff.of h5 E6=h6 at*;clear hh6
 obtain⟨E7,hE7,p7,o7,l7⟩:=qal qao (show PrW 59 [.slice [[.str [41]]] .full] [[41]]from qbi [[41]] (by simp)).own rfl p6 (by(try simp only[wa,wb,wc]at hb);(try simp only[wa,wb,wc]);omega)
 have b_7:(Eff.of h6 E7)[h.length]? =some (.box e.cells):=o7 _ _ (by omega) b_6
 simp only[Z3,simprocAttr,effs,qcb,ty,b_7,hop,hE7]
 clear hE7;generalize hh7:Eff.of h6 E7=h7 at*;clear hh7
 exact qcr c (fun _=>by simp) (by first|exact .inl rfl|exact .inr rfl) rfl htt (fun e=>by have:=hnn e;simp only[wa]at this;omega) (by simpa only[wf,we,wg]using p7)
theorem prexpr_8 (e:PExpr) (hop:e.op=8) (hs:e.Small) (hr:qbr e.n) (ih:∀x∈e.kids,PrV 54 [.agg x.cells] x.words):PrW 54 [.agg e.cells] (e.words):=by
 intro ws tk h c hb
 have p0:=c.at
 have hpos:0<h.length:=by
  cases tk with
  |none=>exact(wd.1 p0.2).1
  |some t=>exact(wd.1 p0.1).1
 have hwd:e.words=btwW (kidW e 0) [102,98,121] (kidW e 1):=by rw[qax,hop];rfl
 rw[hwd]at hb ⊢
 have b_0:(h++[Blk.box e.cells])[h.length]? =some (.box e.cells):=qbs _ _
 refine qcy rfl Tryz.func54 rfl (by kernel_rfl) (m:=136) rfl ?_;simp only[Z3,simprocAttr,Tryz.f54,effs,qcb,hop]
 obtain⟨E1,hE1,tt,htt,hnn,p1,o1,l1⟩:=qdb qao (qpi e [102,98,121] hs.kids.1 ih) (by simp[qad,refs,e.norefs]) (p0.app [.box e.cells]) (by(try simp only[wa,wb,wc]at hb);(try simp only[wa,wb,wc]);omega)
 have b_1:(Eff.of (h++[.box e.cells]) E1)[h.length]? =some (.box e.cells):=o1 _ _ (by omega) b_0
 simp only[Z3,simprocAttr,effs,qcb,ty,b_1,hop,hE1]
 clear hE1;generalize hh1:Eff.of (h++[.box e.cells]) E1=h1 at*;clear hh1
 exact qcr c (fun _=>by simp[btwW]) (by first|exact .inl rfl|exact .inr rfl) rfl htt (fun e=>by have:=hnn e;simp only[wa]at this;omega) (by simpa only[wf,we,wg]using p1)
theorem prexpr_9 (e:PExpr) (hop:e.op=9) (hs:e.Small) (hr:qbr e.n) (ih:∀x∈e.kids,PrV 54 [.agg x.cells] x.words):PrW 54 [.agg e.cells] (e.words):=by
 intro ws tk h c hb
 have p0:=c.at
 have hpos:0<h.length:=by
  cases tk with
  |none=>exact(wd.1 p0.2).1
  |some t=>exact(wd.1 p0.1).1
 have hwd:e.words=[[40],[112,114,101]]++kidW e 0++[[41]]:=by rw[qax,hop];rfl
 rw[hwd]at hb ⊢
 have k0:PrV 103 [.agg e.cells,.int .i64 0] (kidW e 0):=qph e 0 hs.kids.1 ih
 have b_0:(h++[Blk.box e.cells])[h.length]? =some (.box e.cells):=qbs _ _
 refine qcy rfl Tryz.func54 rfl (by kernel_rfl) (m:=136) rfl ?_;simp only[Z3,simprocAttr,Tryz.f54,effs,qcb,hop]
 obtain⟨E1,hE1,tt,htt,hnn,p1,o1,l1⟩:=qdb qao (show PrW 59 [.slice [[.str [40]],[.str [112,114,101]]] .full] [[40],[112,114,101]]from qbi [[40],[112,114,101]] (by simp)) rfl (p0.app [.box e.cells]) (by(try simp only[wa,wb,wc]at hb);(try simp only[wa,wb,wc]);omega)
 have b_1:(Eff.of (h++[.box e.cells]) E1)[h.length]? =some (.box e.cells):=o1 _ _ (by omega) b_0
 simp only[Z3,simprocAttr,effs,qcb,ty,b_1,hop,hE1]
 clear hE1;generalize hh1:Eff.of (h++[.box e.cells]) E1=h1 at*;clear hh1
 obtain⟨E2,hE2,p2,o2,l2⟩:=qal qao k0 (by simp[qad,refs,e.norefs]) p1 (by(try simp only[wa,wb,wc]at hb);(try simp only[wa,wb,wc]);omega)
 have b_2:(Eff.of h1 E2)[h.length]? =some (.box e.cells):=o2 _ _ (by omega) b_1
 simp only[Z3,simprocAttr,effs,qcb,ty,b_2,hop,hE2]
 clear hE2;generalize hh2:Eff.of h1 E2=h2 at*;clear hh2
 obtain⟨E3,hE3,p3,o3,l3⟩:=qal qao (show PrW 59 [.slice [[.str [41]]] .full] [[41]]from qbi [[41]] (by simp)).own rfl p2 (by(try simp only[wa,wb,wc]at hb);(try simp only[wa,wb,wc]);omega)
 have b_3:(Eff.of h2 E3)[h.length]? =some (.box e.cells):=o3 _ _ (by omega) b_2
 simp only[Z3,simprocAttr,effs,qcb,ty,b_3,hop,hE3]
 clear hE3;generalize hh3:Eff.of h2 E3=h3 at*;clear hh3
 exact qcr c (fun _=>by simp) (by first|exact .inl rfl|exact .inr rfl) rfl htt (fun e=>by have:=hnn e;simp only[wa]at this;omega) (by simpa only[wf,we,wg]using p3)
theorem prexpr_10 (e:PExpr) (hop:e.op=10) (hs:e.Small) (hr:qbr e.n) (ih:∀x∈e.kids,PrV 54 [.agg x.cells] x.words):PrW 54 [.agg e.cells] (e.words):=by
 intro ws tk h c hb
 have p0:=c.at
 have hpos:0<h.length:=by
  cases tk with
  |none=>exact(wd.1 p0.2).1
  |some t=>exact(wd.1 p0.1).1
 have hwd:e.words=btwW (kidW e 0) [45,62] (kidW e 1):=by rw[qax,hop];rfl
 rw[hwd]at hb ⊢
 have b_0:(h++[Blk.box e.cells])[h.length]? =some (.box e.cells):=qbs _ _
 refine qcy rfl Tryz.func54 rfl (by kernel_rfl) (m:=136) rfl ?_;simp only[Z3,simprocAttr,Tryz.f54,effs,qcb,hop]
 obtain⟨E1,hE1,tt,htt,hnn,p1,o1,l1⟩:=qdb qao (qpi e [45,62] hs.kids.1 ih) (by simp[qad,refs,e.norefs]) (p0.app [.box e.cells]) (by(try simp only[wa,wb,wc]at hb);(try simp only[wa,wb,wc]);omega)
 have b_1:(Eff.of (h++[.box e.cells]) E1)[h.length]? =some (.box e.cells):=o1 _ _ (by omega) b_0
 simp only[Z3,simprocAttr,effs,qcb,ty,b_1,hop,hE1]
 clear hE1;generalize hh1:Eff.of (h++[.box e.cells]) E1=h1 at*;clear hh1
 exact qcr c (fun _=>by simp[btwW]) (by first|exact .inl rfl|exact .inr rfl) rfl htt (fun e=>by have:=hnn e;simp only[wa]at this;omega) (by simpa only[wf,we,wg]using p1)
theorem prexpr_11 (e:PExpr) (hop:e.op=11) (hs:e.Small) (hr:qbr e.n) (ih:∀x∈e.kids,PrV 54 [.agg x.cells] x.words):PrW 54 [.agg e.cells] (e.words):=by
 intro ws tk h c hb
 have p0:=c.at
 have hpos:0<h.length:=by
  cases tk with
  |none=>exact(wd.1 p0.2).1
  |some t=>exact(wd.1 p0.1).1
 have hwd:e.words=[[40]]++kidW e 0++[[119,104,101,110]]++qcq e.cons [44]++[[40],e.name,[41],[41]]:=by rw[qax,hop];rfl
 rw[hwd]at hb ⊢
 have k0:PrV 103 [.agg e.cells,.int .i64 0] (kidW e 0):=qph e 0 hs.kids.1 ih
 have klist:PrV 60 [qag e.cons,.str [44]] (qcq e.cons [44]):=qtx e.cons [44] hs.cons.1
 have b_0:(h++[Blk.box e.cells])[h.length]? =some (.box e.cells):=qbs _ _
 refine qcy rfl Tryz.func54 rfl (by kernel_rfl) (m:=136) rfl ?_;simp only[Z3,simprocAttr,Tryz.f54,effs,qcb,hop]
 obtain⟨E1,hE1,tt,htt,hnn,p1,o1,l1⟩:=qdb qao (show PrW 59 [.slice [[.str [40]]] .full] [[40]]from qbi [[40]] (by simp)) rfl (p0.app [.box e.cells]) (by(try simp only[wa,wb,wc]at hb);(try simp only[wa,wb,wc]);omega)
 have b_1:(Eff.of (h++[.box e.cells]) E1)[h.length]? =some (.box e.cells):=o1 _ _ (by omega) b_0
 simp only[Z3,simprocAttr,effs,qcb,ty,b_1,hop,hE1]
 clear hE1;generalize hh1:Eff.of (h++[.box e.cells]) E1=h1 at*;clear hh1
 obtain⟨E2,hE2,p2,o2,l2⟩:=qal qao k0 (by simp[qad,refs,e.norefs]) p1 (by(try simp only[wa,wb,wc]at hb);(try simp only[wa,wb,wc]);omega)
 have b_2:(Eff.of h1 E2)[h.length]? =some (.box e.cells):=o2 _ _ (by omega) b_1
 simp only[Z3,simprocAttr,effs,qcb,ty,b_2,hop,hE2]
 clear hE2;generalize hh2:Eff.of h1 E2=h2 at*;clear hh2
 obtain⟨E3,hE3,p3,o3,l3⟩:=qal qao (show PrW 59 [.slice [[.str [119,104,101,110]]] .full] [[119,104,101,110]]from qbi [[119,104,101,110]] (by simp)).own rfl p2 (by(try simp only[wa,wb,wc]at hb);(try simp only[wa,wb,wc]);omega)
 have b_3:(Eff.of h2 E3)[h.length]? =some (.box e.cells):=o3 _ _ (by omega) b_2
 simp only[Z3,simprocAttr,effs,qcb,ty,b_3,hop,hE3]
 clear hE3;generalize hh3:Eff.of h2 E3=h3 at*;clear hh3
 obtain⟨E4,hE4,p4,o4,l4⟩:=qal qao klist rfl p3 (by(try simp only[wa,wb,wc]at hb);(try simp only[wa,wb,wc]);omega)
 have b_4:(Eff.of h3 E4)[h.length]? =some (.box e.cells):=o4 _ _ (by omega) b_3
 simp only[Z3,simprocAttr,effs,qcb,ty,b_4,hop,hE4]
 clear hE4;generalize hh4:Eff.of h3 E4=h4 at*;clear hh4
 obtain⟨E5,hE5,p5,o5,l5⟩:=qal qao (show PrW 59 [.slice [[.str [40]],[.str e.name],[.str [41]],[.str [41]]] .full] [[40],e.name,[41],[41]]from qbi [[40],e.name,[41],[41]] (by simp)).own rfl p4 (by(try simp only[wa,wb,wc]at hb);(try simp only[wa,wb,wc]);omega)
 have b_5:(Eff.of h4 E5)[h.length]? =some (.box e.cells):=o5 _ _ (by omega) b_4
 simp only[Z3,simprocAttr,effs,qcb,ty,b_5,hop,hE5]
 clear hE5;generalize hh5:Eff.of h4 E5=h5 at*;clear hh5
 exact qcr c (fun _=>by simp) (by first|exact .inl rfl|exact .inr rfl) rfl htt (fun e=>by have:=hnn e;simp only[wa]at this;omega) (by simpa only[wf,we,wg]using p5)
theorem prexpr_12 (e:PExpr) (hop:e.op=12) (hs:e.Small) (hr:qbr e.n) (ih:∀x∈e.kids,PrV 54 [.agg x.cells] x.words):PrW 54 [.agg e.cells] (e.words):=by
 intro ws tk h c hb
 have p0:=c.at
 have hpos:0<h.length:=by
  cases tk with
  |none=>exact(wd.1 p0.2).1
  |some t=>exact(wd.1 p0.1).1
 have hwd:e.words=qlw [109,101,114,103,101] e.name e.cons (e.kids.map PExpr.words):=by rw[qax,hop];rfl
 rw[hwd]at hb ⊢
 have b_0:(h++[Blk.box e.cells])[h.length]? =some (.box e.cells):=qbs _ _
 refine qcy rfl Tryz.func54 rfl (by kernel_rfl) (m:=136) rfl ?_;simp only[Z3,simprocAttr,Tryz.f54,effs,qcb,hop]
 obtain⟨E1,hE1,tt,htt,hnn,p1,o1,l1⟩:=qdb qao (arms_c e [109,101,114,103,101] hs ih) (by simp[qad,refs,e.norefs]) (p0.app [.box e.cells]) (by(try simp only[wa,wb,wc]at hb);(try simp only[wa,wb,wc]);omega)
 have b_1:(Eff.of (h++[.box e.cells]) E1)[h.length]? =some (.box e.cells):=o1 _ _ (by omega) b_0
 simp only[Z3,simprocAttr,effs,qcb,ty,b_1,hop,hE1]
 clear hE1;generalize hh1:Eff.of (h++[.box e.cells]) E1=h1 at*;clear hh1
 exact qcr c (fun _=>by simp[qlw]) (by first|exact .inl rfl|exact .inr rfl) rfl htt (fun e=>by have:=hnn e;simp only[wa]at this;omega) (by simpa only[wf,we,wg]using p1)
theorem prexpr_13 (e:PExpr) (hop:e.op=13) (hs:e.Small) (hr:qbr e.n) (ih:∀x∈e.kids,PrV 54 [.agg x.cells] x.words):PrW 54 [.agg e.cells] (e.words):=by
 intro ws tk h c hb
 have p0:=c.at
 have hpos:0<h.length:=by
  cases tk with
  |none=>exact(wd.1 p0.2).1
  |some t=>exact(wd.1 p0.1).1
 have hwd:e.words=qlw [109,97,116,99,104] e.name e.cons (e.kids.map PExpr.words):=by rw[qax,hop];rfl
 rw[hwd]at hb ⊢
 have b_0:(h++[Blk.box e.cells])[h.length]? =some (.box e.cells):=qbs _ _
 refine qcy rfl Tryz.func54 rfl (by kernel_rfl) (m:=136) rfl ?_;simp only[Z3,simprocAttr,Tryz.f54,effs,qcb,hop]
 obtain⟨E1,hE1,tt,htt,hnn,p1,o1,l1⟩:=qdb qao (arms_c e [109,97,116,99,104] hs ih) (by simp[qad,refs,e.norefs]) (p0.app [.box e.cells]) (by(try simp only[wa,wb,wc]at hb);(try simp only[wa,wb,wc]);omega)
 have b_1:(Eff.of (h++[.box e.cells]) E1)[h.length]? =some (.box e.cells):=o1 _ _ (by omega) b_0
 simp only[Z3,simprocAttr,effs,qcb,ty,b_1,hop,hE1]
 clear hE1;generalize hh1:Eff.of (h++[.box e.cells]) E1=h1 at*;clear hh1
 exact qcr c (fun _=>by simp[qlw]) (by first|exact .inl rfl|exact .inr rfl) rfl htt (fun e=>by have:=hnn e;simp only[wa]at this;omega) (by simpa only[wf,we,wg]using p1)
theorem prexpr_14 (e:PExpr) (hop:e.op=14) (hs:e.Small) (hr:qbr e.n) (ih:∀x∈e.kids,PrV 54 [.agg x.cells] x.words):PrW 54 [.agg e.cells] (e.words):=by
 intro ws tk h c hb
 have p0:=c.at
 have hpos:0<h.length:=by
  cases tk with
  |none=>exact(wd.1 p0.2).1
  |some t=>exact(wd.1 p0.1).1
 have hwd:e.words=qpg e.name e.cons (e.kids.map PExpr.words):=by rw[qax,hop];rfl
 rw[hwd]at hb ⊢
 have b_0:(h++[Blk.box e.cells])[h.length]? =some (.box e.cells):=qbs _ _
 refine qcy rfl Tryz.func54 rfl (by kernel_rfl) (m:=136) rfl ?_;simp only[Z3,simprocAttr,Tryz.f54,effs,qcb,hop]
 obtain⟨E1,hE1,tt,htt,hnn,p1,o1,l1⟩:=qdb qao (call_c e hs ih) (by simp[qad,refs,e.norefs]) (p0.app [.box e.cells]) (by(try simp only[wa,wb,wc]at hb);(try simp only[wa,wb,wc]);omega)
 have b_1:(Eff.of (h++[.box e.cells]) E1)[h.length]? =some (.box e.cells):=o1 _ _ (by omega) b_0
 simp only[Z3,simprocAttr,effs,qcb,ty,b_1,hop,hE1]
 clear hE1;generalize hh1:Eff.of (h++[.box e.cells]) E1=h1 at*;clear hh1
 exact qcr c (fun _=>by simp[qpg]) (by first|exact .inl rfl|exact .inr rfl) rfl htt (fun e=>by have:=hnn e;simp only[wa]at this;omega) (by simpa only[wf,we,wg]using p1)
theorem prexpr_15 (e:PExpr) (hop:e.op=15) (hs:e.Small) (hr:qbr e.n) (ih:∀x∈e.kids,PrV 54 [.agg x.cells] x.words):PrW 54 [.agg e.cells] (e.words):=by
 intro ws tk h c hb
 have p0:=c.at
 have hpos:0<h.length:=by
  cases tk with
  |none=>exact(wd.1 p0.2).1
  |some t=>exact(wd.1 p0.1).1
 have hwd:e.words=btwW (kidW e 0) [101,118,101,114,121] (kidW e 1):=by rw[qax,hop];rfl
 rw[hwd]at hb ⊢
 have b_0:(h++[Blk.box e.cells])[h.length]? =some (.box e.cells):=qbs _ _
 refine qcy rfl Tryz.func54 rfl (by kernel_rfl) (m:=136) rfl ?_;simp only[Z3,simprocAttr,Tryz.f54,effs,qcb,hop]
 obtain⟨E1,hE1,tt,htt,hnn,p1,o1,l1⟩:=qdb qao (qpi e [101,118,101,114,121] hs.kids.1 ih) (by simp[qad,refs,e.norefs]) (p0.app [.box e.cells]) (by(try simp only[wa,wb,wc]at hb);(try simp only[wa,wb,wc]);omega)
 have b_1:(Eff.of (h++[.box e.cells]) E1)[h.length]? =some (.box e.cells):=o1 _ _ (by omega) b_0
 simp only[Z3,simprocAttr,effs,qcb,ty,b_1,hop,hE1]
 clear hE1;generalize hh1:Eff.of (h++[.box e.cells]) E1=h1 at*;clear hh1
 exact qcr c (fun _=>by simp[btwW]) (by first|exact .inl rfl|exact .inr rfl) rfl htt (fun e=>by have:=hnn e;simp only[wa]at this;omega) (by simpa only[wf,we,wg]using p1)
theorem q41 (e:PExpr) (h0:∀i∈[1,2,3,4,5,6,7,8,9,10,11,12,13,14,15],e.op≠i):PrW 54 [.agg e.cells] (e.words):=by
 intro ws tk h c hb
 have p0:=c.at
 have hpos:0<h.length:=by
  cases tk with
  |none=>exact(wd.1 p0.2).1
  |some t=>exact(wd.1 p0.1).1
 have hbq:∀i∈[1,2,3,4,5,6,7,8,9,10,11,12,13,14,15],(e.op==i)=false:=fun i hi=>beq_false_of_ne (h0 i hi)
 simp only[wo]at hbq h0
 obtain⟨g1,g2,g3,g4,g5,g6,g7,g8,g9,g10,g11,g12,g13,g14,g15,-⟩:=h0
 obtain⟨q1,q2,q3,q4,q5,q6,q7,q8,q9,q10,q11,q12,q13,q14,q15,-⟩:=hbq
 have hwd:e.words=[[63]]:=by
  rw[qax];unfold qoa
  rw[if_neg g1,if_neg g2,if_neg g3,if_neg g4,if_neg g5,if_neg g6,if_neg g7,if_neg g8,if_neg g10,if_neg g15,if_neg g9,if_neg g11,if_neg g12,if_neg g13,if_neg g14]
 rw[hwd]at hb ⊢
 refine qcy rfl Tryz.func54 rfl (by kernel_rfl) (m:=136) rfl ?_;simp only[Z3,simprocAttr,Tryz.f54,effs,qcb,q1,q2,q3,q4,q5,q6,q7,q8,q9,q10,q11,q12,q13,q14,q15]
 obtain⟨E1,hE1,tt,htt,hnn,p1,o1,l1⟩:=qdb qao (show PrW 59 [.slice [[.str [63]]] .full] [[63]]from qbi [[63]] (by simp)) rfl (p0.app [.box e.cells]) (by(try simp only[wa,wb,wc]at hb);(try simp only[wa,wb,wc]);omega)
 simp only[Z3,simprocAttr,effs,qcb,ty,hE1]
 clear hE1;generalize hh1:Eff.of (h++[.box e.cells]) E1=h1 at*;clear hh1
 exact qcr c (fun _=>by simp) (by first|exact .inl rfl|exact .inr rfl) rfl htt (fun e=>by have:=hnn e;simp only[wa]at this;omega) (by simpa only[wf,we,wg]using p1)
theorem qws (e:PExpr):e.Small→e.Rng→PrW 54 [.agg e.cells] e.words:=by
 induction e using PExpr.induct with
 |h op name n cons kids ih=>
  intro hs hr
  obtain⟨e,he⟩:∃e,e=PExpr.mk op name n cons kids:=⟨_,rfl⟩
  have hkr:∀x∈kids,x.Rng:=by cases hr;assumption
  have hnr:qbr n:=by cases hr;assumption
  rw[←he]at hs ⊢
  have hkids:e.kids=kids:=by rw[he];rfl
  have ih':∀x∈e.kids,PrV 54 [.agg x.cells] x.words:=fun x hx=>(ih x (hkids▸hx) (hs.kids.2 x hx) (hkr x (hkids▸hx))).own
  have hn:qbr e.n:=by rw[he];exact hnr
  by_cases h:∀i∈[1,2,3,4,5,6,7,8,9,10,11,12,13,14,15],e.op≠i
  ·exact q41 e h
  ·simp only[wo,Classical.not_and_iff_not_or_not,Classical.not_not,ne_eq]at h
   rcases h with h|h|h|h|h|h|h|h|h|h|h|h|h|h|h|h
   ·exact prexpr_1 e h hs hn ih'
   ·exact prexpr_2 e h hs hn ih'
   ·exact prexpr_3 e h hs hn ih'
   ·exact prexpr_4 e h hs hn ih'
   ·exact prexpr_5 e h hs hn ih'
   ·exact prexpr_6 e h hs hn ih'
   ·exact prexpr_7 e h hs hn ih'
   ·exact prexpr_8 e h hs hn ih'
   ·exact prexpr_9 e h hs hn ih'
   ·exact prexpr_10 e h hs hn ih'
   ·exact prexpr_11 e h hs hn ih'
   ·exact prexpr_12 e h hs hn ih'
   ·exact prexpr_13 e h hs hn ih'
   ·exact prexpr_14 e h hs hn ih'
   ·exact prexpr_15 e h hs hn ih'
   ·exact absurd (fun _ hx=>by cases hx) h
end Go.Ab
namespace Go.Ab
open Go Go.Ab.Tab
def J (l:List Str):Str:=qjj [32] l
theorem J_nil:J []=[]:=rfl
theorem J_one (x:Str):J [x]=x:=rfl
theorem qyl (x:Str) (l:List Str) (h:l≠[]):J (x::l)=x++32::J l:=by
 cases l with
 |nil=>exact absurd rfl h
 |cons y r=>show x++[32]++qjj [32] (y::r)=_;simp[J]
def T:List Str→Nat
 |[]=>0
 |x::r=>x.length+1+T r
theorem qig (a b:List Str):T (a++b)=T a+T b:=by
 induction a with
 |nil=>simp[T]
 |cons x r ih=>simp only[we,T,ih];omega
theorem J_len (l:List Str):(J l).length≤T l:=by
 induction l with
 |nil=>simp[J_nil,T]
 |cons x r ih=>
  cases r with
  |nil=>simp[J_one,T]
  |cons y q=>
   rw[qyl x _ (by simp)]
   simp only[wa,wb,T]at ih ⊢
   omega
theorem T_len (l:List Str):l.length≤T l:=by
 induction l with
 |nil=>simp[T]
 |cons x r ih=>simp only[wb,T];omega
def sumT (L:List (List Str)):Nat:=(L.map T).sum
theorem qym (s:Str) (L:List (List Str)):T (sepW s L)≤sumT L+L.length*(s.length+1):=by
 cases L with
 |nil=>simp[sepW,T,sumT]
 |cons x r=>
  have:T (r.flatMap fun y=>s::y)=(r.map T).sum+r.length*(s.length+1):=by
   induction r with
   |nil=>simp[T]
   |cons y q ih=>
    simp only[List.flatMap_cons,we,T,qig,ih,wi,wj,wb,wq,Nat.one_mul]
    omega
  simp only[sepW,qig,this,sumT,wi,wj,wb,wq]
  omega
theorem q42 (p:List Str→Prop) (op:Int) (name:Str) (n:Int) (cons:List Str) (ks:List (List Str))
 (h1:p [decB n])
 (h2:p [qnx (n==1)])
 (h3:p [name])
 (h4:p [name])
 (h5:p ([[40],name]++kW ks 0++[[41]]))
 (h6:p (btwW (kW ks 0) name (kW ks 1)))
 (h7:p ([[40],[105,102]]++kW ks 0++[[116,104,101,110]]++kW ks 1++[[101,108,115,101]]++kW ks 2++[[41]]))
 (h8:p (btwW (kW ks 0) [102,98,121] (kW ks 1)))
 (h10:p (btwW (kW ks 0) [45,62] (kW ks 1)))
 (h15:p (btwW (kW ks 0) [101,118,101,114,121] (kW ks 1)))
 (h9:p ([[40],[112,114,101]]++kW ks 0++[[41]]))
 (h11:p ([[40]]++kW ks 0++[[119,104,101,110]]++qcq cons [44]++[[40],name,[41],[41]]))
 (h12:p (qlw [109,101,114,103,101] name cons ks))
 (h13:p (qlw [109,97,116,99,104] name cons ks))
 (h14:p (qpg name cons ks))
 (h0:p [[63]]):p (qoa op name n cons ks):=by
 unfold qoa
 by_cases c1:op=1
 ·rw[if_pos c1];exact h1
 rw[if_neg c1]
 by_cases c2:op=2
 ·rw[if_pos c2];exact h2
 rw[if_neg c2]
 by_cases c3:op=3
 ·rw[if_pos c3];exact h3
 rw[if_neg c3]
 by_cases c4:op=4
 ·rw[if_pos c4];exact h4
 rw[if_neg c4]
 by_cases c5:op=5
 ·rw[if_pos c5];exact h5
 rw[if_neg c5]
 by_cases c6:op=6
 ·rw[if_pos c6];exact h6
 rw[if_neg c6]
 by_cases c7:op=7
 ·rw[if_pos c7];exact h7
 rw[if_neg c7]
 by_cases c8:op=8
 ·rw[if_pos c8];exact h8
 rw[if_neg c8]
 by_cases c10:op=10
 ·rw[if_pos c10];exact h10
 rw[if_neg c10]
 by_cases c15:op=15
 ·rw[if_pos c15];exact h15
 rw[if_neg c15]
 by_cases c9:op=9
 ·rw[if_pos c9];exact h9
 rw[if_neg c9]
 by_cases c11:op=11
 ·rw[if_pos c11];exact h11
 rw[if_neg c11]
 by_cases c12:op=12
 ·rw[if_pos c12];exact h12
 rw[if_neg c12]
 by_cases c13:op=13
 ·rw[if_pos c13];exact h13
 rw[if_neg c13]
 by_cases c14:op=14
 ·rw[if_pos c14];exact h14
 rw[if_neg c14]
 exact h0
theorem qwt:∀(f n:Nat),(decN f n).length≤f+1
 |0,n=>by simp[decN]
 |f+1,n=>by
  unfold decN
  split
  ·simp
  ·have:=qwt f (n/10)
   simp only[wa,wb,wc];omega
theorem decB_len (n:Int):(decB n).length≤22:=by
 unfold decB
 split
 ·have:=qwt 20 n.natAbs;simp only[wb];omega
 ·have:=qwt 20 n.toNat;omega
theorem boolW_len (b:Bool):(qnx b).length≤5:=by cases b<;>simp[qnx]
theorem kW_T (ks:List (List Str)):T (kW ks 0)+T (kW ks 1)+T (kW ks 2)≤sumT ks+6:=by
 rcases ks with _|⟨a,_|⟨b,_|⟨c,r⟩⟩⟩<;>simp[kW,T,sumT]<;>omega
def qgx (l:List Str):Nat:=qby (fun s:Str=>s.length+1) l
theorem listW_T (l:List Str) (s:Str):T (qcq l s)≤qgx l+l.length*(s.length+1):=by
 have h:=qym s (l.map fun x=>[x])
 have:sumT (l.map fun x=>[x])=qgx l:=by
  induction l with
  |nil=>rfl
  |cons x r ih=>
   have:=ih (qym s (r.map fun x=>[x]))
   simp only[sumT,qgx,wi,wj,qby,T]at this ⊢
   omega
 unfold qcq
 rw[this,wm]at h
 exact h
theorem armL_T (cons:List Str) (ks:List (List Str)):sumT (armL cons ks)+(armL cons ks).length*2≤6*qgx cons+sumT ks:=by
 induction cons generalizing ks with
 |nil=>simp[armL,sumT,qgx,qby]
 |cons c r ih=>
  cases ks with
  |nil=>simp[armL,sumT]
  |cons k q=>
   have:=ih q
   simp only[armL,sumT,qgx,List.zipWith_cons_cons,wi,wj,wb,qby,qig,T,wc]at this ⊢
   omega
theorem q0o (l:List Str):l.length≤qgx l:=qhg _ (fun _=>by omega) l
theorem qzg (e:PExpr):T e.words+100≤40*e.bulk:=by
 induction e using PExpr.induct with
 |h op name n cons kids ih=>
  have hk:sumT (kids.map PExpr.words)+100*kids.length≤40*PExpr.bulkL kids∧kids.length≤PExpr.bulkL kids:=by
   clear n
   induction kids with
   |nil=>simp[sumT,PExpr.bulkL]
   |cons x r ihr=>
    have h1:=ih x (by simp)
    have h2:=ihr (fun k hk=>ih k (by simp[hk]))
    have h3:6≤x.bulk:=by cases x;simp only[PExpr.bulk];omega
    simp only[sumT,wi,wj,PExpr.bulkL,wb]at h2 ⊢
    omega
  have hb:(PExpr.mk op name n cons kids).bulk=name.length+qgx cons+PExpr.bulkL kids+6:=by simp[PExpr.bulk,qgx]
  rw[hb]
  simp only[PExpr.words,qyk]
  have k0:=kW_T (kids.map PExpr.words)
  have d:=decB_len n
  have b:=boolW_len (n==1)
  have l1:=listW_T cons [44]
  have l2:=q0o cons
  have a1:=armL_T cons (kids.map PExpr.words)
  have a2:=qym [124] (armL cons (kids.map PExpr.words))
  have c1:=qym [44] (kids.map PExpr.words)
  simp only[wm,wb,wc]at l1 a2 c1
  have l3:cons.length=0→True:=fun _=>trivial
  apply q42 (fun l=>T l+100≤40*(name.length+qgx cons+PExpr.bulkL kids+6))
  all_goals simp only[btwW,qlw,qpg,brW,qig,T,wb,wc]
  all_goals first|omega|(split<;>simp only[qig,T,wb,wc]<;>omega)
end Go.Ab
namespace Go.Ab
open Go Go.Ab.Tab
theorem bind_c (s:Str):Ret C 152 [.str s] (.int .i64 (qa7 s)):=by
 refine Ret.mk rfl rfl ?_
 unfold qa7
 cases h1:(s==[45,62])with
 |true=>rw[if_pos (beq_iff_eq.1 h1)];rw[C_fn rfl Tryz.func152 rfl (by kernel_rfl) (m:=23) rfl];simp only[Z3,Nat.reduceAdd,Nat.reduceBEq,Int.reduceBEq,Int.reduceBNe,Int.reduceLT,Int.reduceLE,Tryz.f152,qhe,h1];rfl
 |false=>
  rw[if_neg (by simpa using h1)]
  cases h2:(s==[102,98,121])with
  |true=>rw[if_pos (beq_iff_eq.1 h2)];rw[C_fn rfl Tryz.func152 rfl (by kernel_rfl) (m:=23) rfl];simp only[Z3,Nat.reduceAdd,Nat.reduceBEq,Int.reduceBEq,Int.reduceBNe,Int.reduceLT,Int.reduceLE,Tryz.f152,qhe,h1,h2];rfl
  |false=>
   rw[if_neg (by simpa using h2)]
   cases h3:(s==[111,114])with
   |true=>rw[if_pos (beq_iff_eq.1 h3)];rw[C_fn rfl Tryz.func152 rfl (by kernel_rfl) (m:=23) rfl];simp only[Z3,Nat.reduceAdd,Nat.reduceBEq,Int.reduceBEq,Int.reduceBNe,Int.reduceLT,Int.reduceLE,Tryz.f152,qhe,h1,h2,h3];rfl
   |false=>
    rw[if_neg (by simpa using h3)]
    cases h4:(s==[97,110,100])with
    |true=>rw[if_pos (beq_iff_eq.1 h4)];rw[C_fn rfl Tryz.func152 rfl (by kernel_rfl) (m:=23) rfl];simp only[Z3,Nat.reduceAdd,Nat.reduceBEq,Int.reduceBEq,Int.reduceBNe,Int.reduceLT,Int.reduceLE,Tryz.f152,qhe,h1,h2,h3,h4];rfl
    |false=>
     rw[if_neg (by simpa using h4)]
     cases h5:(s==[60])with
     |true=>rw[if_pos (beq_iff_eq.1 h5)];rw[C_fn rfl Tryz.func152 rfl (by kernel_rfl) (m:=23) rfl];simp only[Z3,Nat.reduceAdd,Nat.reduceBEq,Int.reduceBEq,Int.reduceBNe,Int.reduceLT,Int.reduceLE,Tryz.f152,qhe,h1,h2,h3,h4,h5];rfl
     |false=>
      rw[if_neg (by simpa using h5)]
      cases h6:(s==[60,61])with
      |true=>rw[if_pos (beq_iff_eq.1 h6)];rw[C_fn rfl Tryz.func152 rfl (by kernel_rfl) (m:=23) rfl];simp only[Z3,Nat.reduceAdd,Nat.reduceBEq,Int.reduceBEq,Int.reduceBNe,Int.reduceLT,Int.reduceLE,Tryz.f152,qhe,h1,h2,h3,h4,h5,h6];rfl
      |false=>
       rw[if_neg (by simpa using h6)]
       cases h7:(s==[61])with
       |true=>rw[if_pos (beq_iff_eq.1 h7)];rw[C_fn rfl Tryz.func152 rfl (by kernel_rfl) (m:=23) rfl];simp only[Z3,Nat.reduceAdd,Nat.reduceBEq,Int.reduceBEq,Int.reduceBNe,Int.reduceLT,Int.reduceLE,Tryz.f152,qhe,h1,h2,h3,h4,h5,h6,h7];rfl
       |false=>
        rw[if_neg (by simpa using h7)]
        cases h8:(s==[60,62])with
        |true=>rw[if_pos (beq_iff_eq.1 h8)];rw[C_fn rfl Tryz.func152 rfl (by kernel_rfl) (m:=23) rfl];simp only[Z3,Nat.reduceAdd,Nat.reduceBEq,Int.reduceBEq,Int.reduceBNe,Int.reduceLT,Int.reduceLE,Tryz.f152,qhe,h1,h2,h3,h4,h5,h6,h7,h8];rfl
        |false=>
         rw[if_neg (by simpa using h8)]
         cases h9:(s==[43])with
         |true=>rw[if_pos (beq_iff_eq.1 h9)];rw[C_fn rfl Tryz.func152 rfl (by kernel_rfl) (m:=23) rfl];simp only[Z3,Nat.reduceAdd,Nat.reduceBEq,Int.reduceBEq,Int.reduceBNe,Int.reduceLT,Int.reduceLE,Tryz.f152,qhe,h1,h2,h3,h4,h5,h6,h7,h8,h9];rfl
         |false=>
          rw[if_neg (by simpa using h9)]
          cases h10:(s==[45])with
          |true=>rw[if_pos (beq_iff_eq.1 h10)];rw[C_fn rfl Tryz.func152 rfl (by kernel_rfl) (m:=23) rfl];simp only[Z3,Nat.reduceAdd,Nat.reduceBEq,Int.reduceBEq,Int.reduceBNe,Int.reduceLT,Int.reduceLE,Tryz.f152,qhe,h1,h2,h3,h4,h5,h6,h7,h8,h9,h10];rfl
          |false=>
           rw[if_neg (by simpa using h10)]
           cases h11:(s==[42])with
           |true=>rw[if_pos (beq_iff_eq.1 h11)];rw[C_fn rfl Tryz.func152 rfl (by kernel_rfl) (m:=23) rfl];simp only[Z3,Nat.reduceAdd,Nat.reduceBEq,Int.reduceBEq,Int.reduceBNe,Int.reduceLT,Int.reduceLE,Tryz.f152,qhe,h1,h2,h3,h4,h5,h6,h7,h8,h9,h10,h11];rfl
           |false=>
            rw[if_neg (by simpa using h11)]
            cases h12:(s==[47])with
            |true=>rw[if_pos (beq_iff_eq.1 h12)];rw[C_fn rfl Tryz.func152 rfl (by kernel_rfl) (m:=23) rfl];simp only[Z3,Nat.reduceAdd,Nat.reduceBEq,Int.reduceBEq,Int.reduceBNe,Int.reduceLT,Int.reduceLE,Tryz.f152,qhe,h1,h2,h3,h4,h5,h6,h7,h8,h9,h10,h11,h12];rfl
            |false=>
             rw[if_neg (by simpa using h12)]
             cases h13:(s==[37])with
             |true=>rw[if_pos (beq_iff_eq.1 h13)];rw[C_fn rfl Tryz.func152 rfl (by kernel_rfl) (m:=23) rfl];simp only[Z3,Nat.reduceAdd,Nat.reduceBEq,Int.reduceBEq,Int.reduceBNe,Int.reduceLT,Int.reduceLE,Tryz.f152,qhe,h1,h2,h3,h4,h5,h6,h7,h8,h9,h10,h11,h12,h13];rfl
             |false=>
              rw[if_neg (by simpa using h13)]
              rw[C_fn rfl Tryz.func152 rfl (by kernel_rfl) (m:=23) rfl];simp only[Z3,Nat.reduceAdd,Nat.reduceBEq,Int.reduceBEq,Int.reduceBNe,Int.reduceLT,Int.reduceLE,Tryz.f152,qhe,h1,h2,h3,h4,h5,h6,h7,h8,h9,h10,h11,h12,h13];rfl
theorem qzh (op:Int) (es:List PExpr) (hl:es.length≤qac):Ret C 153 [.int .i64 op,.slice (es.map PExpr.cells) .full] (.agg (PExpr.mk op [] 0 [] es).cells):=by
 refine Ret.mk rfl rfl ?_
 rw[C_fn rfl Tryz.func153 rfl (by kernel_rfl) (m:=6) rfl];simp only[Z3,Nat.reduceAdd,Nat.reduceBEq,Int.reduceBEq,Int.reduceBNe,Int.reduceLT,Int.reduceLE,Tryz.f153,fx_153]
 exact qfw (by simp[Eff.dirt]) rfl (by rw[PExpr.cells_eq];rfl)
end Go.Ab
namespace Go.Ab
open Go Go.Ab.Tab
def qa1:List AVal:=[.int .i64 0,.str [],.int .i64 0,.slice [] .full,.slice [] .full]
def kidsV (n:Nat) (us:List AVal):Option OR:=
 bnd (qer (fun i=>some (i*5,5)) (List.replicate n qa1).flatten (us.zipIdx.map fun x=>(x.2,x.1))) fun cs=>bnd (qfd (chop 5 n cs)) fun es=>some (.val (.slice es .full) .same)
theorem kidsV_3 (a b c:PExpr):kidsV 3 [.agg a.cells,.agg b.cells,.agg c.cells]=some (.val (.slice [a.cells,b.cells,c.cells] .full) .same):=by
 rw[a.cells_eq,b.cells_eq,c.cells_eq];rfl
section
variable {cmp:List TypeId} {call:Call} {dst:Option Tmp} {ty:TypeId} {pos:String} {after:Array Edge} {gd:Option (Nat×Bool)} {ts:List AVal} {h:qab}
theorem qgs (o0 o1:Operand):opA PP cmp call ⟨dst,.buildSlice 35 2 #[(0,o0),(1,o1)],ty,pos,after,gd⟩ ts h=bnd (qbx ts [o0,o1]) (kidsV 2):=by
 rw[qmp qiw cmp call dst ty pos after gd ts h 2 _ (by decide),qca]
 simp only[qcx,qbx]
 cases qae o0 ts with
 |none=>rfl
 |some x=>cases qae o1 ts<;>rfl
theorem bs35_3 (o0 o1 o2:Operand):opA PP cmp call ⟨dst,.buildSlice 35 3 #[(0,o0),(1,o1),(2,o2)],ty,pos,after,gd⟩ ts h=bnd (qbx ts [o0,o1,o2]) (kidsV 3):=by
 rw[qmp qiw cmp call dst ty pos after gd ts h 3 _ (by decide),qca]
 simp only[qcx,qbx]
 cases qae o0 ts with
 |none=>rfl
 |some x=>cases qae o1 ts with
  |none=>rfl
  |some y=>cases qae o2 ts<;>rfl
end
theorem PR.bind_ok {α β:Type} {x:PR α} {k:α→List PTok→PR β} {b:β} {ts:List PTok} (h:x.bind k= .ok b ts):∃a ts1,x= .ok a ts1∧k a ts1= .ok b ts:=by
 cases x with
 |ok a ts1=>exact⟨a,ts1,rfl,h⟩
 |bad e t=>cases h
 |out=>cases h
theorem qa8 {β:Type} {s:Str} {ts ts':List PTok} {k:List PTok→PR β} {b:β} (h:qav s ts k= .ok b ts'):hasS s ts=true∧k ts.tail= .ok b ts':=by
 unfold qav at h
 split at h
 ·exact⟨‹_›,h⟩
 ·cases h
theorem qb8 {β:Type} {n:Int} {ts ts':List PTok} {k:Str→List PTok→PR β} {b:β} (h:qef n ts k= .ok b ts'):∃t r,ts=t::r∧t.sort=n∧k t.text r= .ok b ts':=by
 unfold qef at h
 split at h
 ·rename_i t r
  split at h
  ·rename_i hs;exact⟨t,r,rfl,by simpa using hs,h⟩
  ·cases h
 ·cases h
theorem qhk {s:Str} {t:PTok} {r:List PTok} (h:hasS s (t::r)=true):(qaw (t::r)==s)=true:=by rw[qve h];simp
theorem qhl {s:Str} {t:PTok} {r:List PTok} (hs:s≠[]) (h:hasS s (t::r)=false):(qaw (t::r)==s)=false:=by
 have:=sign_ne hs h;simpa[bne]using this
theorem qbu (s:Str) (t:PTok) (r:List PTok) (d:Nat) (h:hasS s (t::r)=true):∃E:qab→Eff,(∀H,qai C (.box (pbox (t::r) d)::H) 78 [.ptr 0 0,.slice [[.str s]] .full]=some (.ret (.tuple []) (E H)))∧∀H,(E H).of (.box (pbox (t::r) d)::H)= .box (pbox r d)::H:=
 met (qh3 s t r d h) rfl (qaa _ _) (qaa _ _) rfl
theorem wordM (k:Int) (t:PTok) (r:List PTok) (d:Nat) (h:t.sort=k):∃E:qab→Eff,(∀H,qai C (.box (pbox (t::r) d)::H) 197 [.ptr 0 0,.int .i64 k]=some (.ret (.str t.text) (E H)))∧∀H,(E H).of (.box (pbox (t::r) d)::H)= .box (pbox r d)::H:=
 met (word_c k t r d h) rfl (qaa _ _) (qaa _ _) rfl
theorem qd3 (t:PTok) (r:List PTok) (d:Nat) (h:t.sort=1):qbj C 132 [.ptr 0 0] [.box (pbox (t::r) d)] (.str t.text) [.box (pbox r d)]:=by
 obtain⟨E,e1,e2⟩:=wordM 1 t r d h
 refine qa9 rfl Tryz.func132 rfl (by kernel_rfl) (m:=4) rfl ?_;simp only[Z3,simprocAttr,Tryz.f132,fx_132,effs,e1,e2]
 exact qc3 (.inl rfl) rfl rfl rfl (fun b hb=>by
  obtain rfl:b=0:=wk.1 hb
  exact qe3 _ _ r d _ rfl) rfl
theorem qf1 (t:PTok) (r:List PTok) (d:Nat) (h:t.sort=2):qbj C 134 [.ptr 0 0] [.box (pbox (t::r) d)] (.str t.text) [.box (pbox r d)]:=by
 obtain⟨E,e1,e2⟩:=wordM 2 t r d h
 refine qa9 rfl Tryz.func134 rfl (by kernel_rfl) (m:=4) rfl ?_;simp only[Z3,simprocAttr,Tryz.f134,fx_134,effs,e1,e2]
 exact qc3 (.inl rfl) rfl rfl rfl (fun b hb=>by
  obtain rfl:b=0:=wk.1 hb
  exact qe3 _ _ r d _ rfl) rfl
def RdE (f:FuncId) (rest:List AVal) (ts:List PTok) (d:Nat) (e:PExpr) (ts':List PTok):Prop:=qbj C f (.ptr 0 0::rest) [.box (pbox ts d)] (.agg e.cells) [.box (pbox ts' d)]
theorem RdE.m {f:FuncId} {rest:List AVal} {ts ts':List PTok} {d:Nat} {e:PExpr} (h:RdE f rest ts d e ts') (hr:qad rest=[]):
 ∃E:qab→Eff,(∀H,qai C (.box (pbox ts d)::H) f (.ptr 0 0::rest)=some (.ret (.agg e.cells) (E H)))∧∀H,(E H).of (.box (pbox ts d)::H)= .box (pbox ts' d)::H:=
 met h hr (qaa _ _) (qaa _ _) (by simp only[refs];exact e.norefs)
theorem fin_e {n:Nat} {rs:List ResultVar} {h1:qab} {s:St} {ex:AEx} {cs:List AVal} {e:PExpr} (hex:ex= .ret∨ex= .normal) (hr:resA PP rs s=some [.agg cs]) (hv:cs.map qbk=e.cells) (hs:∀b,b<n→qiz n s.heap b) (hh:s.heap.take n=h1):finE PP n rs (.agg e.cells) h1 (some (ex,s)):=
 qc3 hex hr (by show AVal.agg (cs.map qbk)=_;rw[hv]) (by simp only[lowA,refs,e.norefs];rfl) hs hh
theorem res_e {s:St} {k b:Nat} {cs:List AVal} (h1:s.tmps[k]? =some (.ptr b 0)) (h2:s.heap[b]? =some (.box cs)) (h3:cs.length=5):resA PP [.cell k 37] s=some [.agg cs]:=by
 simp only[resA,h1,qgd,h2,qfp,qcl,qch,List.drop_zero]
 rw[List.take_of_length_le (by omega),if_pos h3]
theorem qfa {k b:Nat} {h1:qab} {s:St} {ex:AEx} {cs:List AVal} {e:PExpr} {ts:List PTok} {d:Nat} (hex:ex= .ret∨ex= .normal) (g1:s.tmps[k]? =some (.ptr b 0)) (g2:s.heap[b]? =some (.box cs)) (hv:cs.map qbk=e.cells)
 (hb:s.heap[0]? =some (.box (pbox ts d))) (hh:s.heap.take 1=h1):finE PP 1 [.cell k 37] (.agg e.cells) h1 (some (ex,s)):=
 fin_e hex (res_e g1 g2 (by have:=congrArg List.length hv;rw[wm]at this;rw[this,e.len])) hv (fun b hb'=>by
  obtain rfl:b=0:=wk.1 hb'
  exact qe3 _ _ ts d _ hb) hh
theorem qit (e:PExpr):e.cells.map qbk=e.cells:=by rw[e.cells_eq];rfl
theorem stays1 {H:qab} {ts:List PTok} {d:Nat} (h:H[0]? =some (.box (pbox ts d))):∀b,b<1→qiz 1 H b:=fun b hb=>by
 obtain rfl:b=0:=wk.1 hb
 exact qe3 _ _ ts d _ h
def HypE (R:Rd):Prop:=∀(o least:Nat) (ts:List PTok) (e:PExpr) (ts':List PTok),TsOk ts→R o least ts= .ok e ts'→TsOk ts'∧(least=0→RdE 151 [] ts o e ts')∧(0<least→RdE 99 [.int .i64 least] ts o e ts')
theorem qdy {R:Rd} (hR:HypE R) {o:Nat} {ts ts':List PTok} {e:PExpr} (hT:TsOk ts) (h:R o 1 ts= .ok e ts'):TsOk ts'∧RdE 50 [] ts o e ts':=by
 obtain⟨h1,_,h3⟩:=hR o 1 ts e ts' hT h
 have h3':RdE 99 [.int .i64 1] ts o e ts':=h3 (by omega)
 obtain⟨E,e1,e2⟩:=h3'.m rfl
 refine⟨h1,?_⟩
 unfold RdE
 refine qa9 rfl Tryz.func50 rfl (by kernel_rfl) (m:=4) rfl ?_;simp only[Z3,simprocAttr,Tryz.f50,fx_50,effs,e1,e2]
 exact qfa (ts:=ts') (d:=o) (.inl rfl) rfl rfl (qit e) rfl rfl
end Go.Ab
namespace Go.Ab
open Go Go.Ab.Tab
theorem met3 {f:FuncId} {rest:List AVal} {x y:List AVal} {v:AVal} (g:qbj C f (.ptr 0 0::rest) [.box x] v [.box y]) (hr:qad rest=[]) (px:qad x=[]) (py:qad y=[]) (hv:refs v=[]):
 ∃E:qab→Eff,(∀H,qai C (.box x::H) f (.ptr 0 0::rest)=some (.ret v (E H)))∧(∀H,(E H).of (.box x::H)= .box y::H)∧∀H b,0<b→b<H.length+1→(E H).dirt.contains b=false:=by
 obtain⟨e,he,hof⟩:=id g
 have h:∀H,qai C (.box x::H) f (.ptr 0 0::rest)=some (.ret v (qhs (.box x::H) [0] e)):=by
  intro H
  have ha:qad (.ptr 0 0::rest)=[0]:=by simp[qad,refs,hr]
  unfold qai
  have hidx:qc0 (.box x::H) 256 (qad (.ptr 0 0::rest)) []=[0]:=by rw[ha];simp[qc0,px]
  have e1:subH (.box x::H) [0]=[.box x]:=by simp[subH,renB,qbw px]
  have e2:renL (fun x=>[0].idxOf x) (.ptr 0 0::rest)= .ptr 0 0::rest:=by
   simp only[renL,ren,qbw hr];simp
  simp only[hidx]
  rw[if_pos (by unfold qdo;simp[ha,qdx,px]),e1,e2,he]
  simp only
  rw[qf6 v (by rw[hv];simp)]
 refine⟨_,h,fun H=> ?_,fun H b h1 h2=> ?_⟩
 ·obtain⟨E,hE,hh⟩:=qel qao (b:=0) (H:= .box x::H) hr rfl px py g hv
  rw[h H]at hE
  cases hE
  exact hh
 ·cases e with
  |same=>rfl
  |heap h' d=>
   simp only[qhs,Eff.dirt,List.contains_eq_mem,decide_eq_false_iff_not,List.mem_map,not_exists,not_and]
   intro i _ hi
   unfold qft at hi
   simp only[wb,wc]at hi
   split at hi
   ·have:i=0:=by omega
    subst this
    simp at hi
    omega
   ·omega
theorem RdE.m3 {f:FuncId} {rest:List AVal} {ts ts':List PTok} {d:Nat} {e:PExpr} (h:RdE f rest ts d e ts') (hr:qad rest=[]):
 ∃E:qab→Eff,(∀H,qai C (.box (pbox ts d)::H) f (.ptr 0 0::rest)=some (.ret (.agg e.cells) (E H)))∧(∀H,(E H).of (.box (pbox ts d)::H)= .box (pbox ts' d)::H)∧∀H b,0<b→b<H.length+1→(E H).dirt.contains b=false:=
 met3 h hr (qaa _ _) (qaa _ _) (by simp only[refs];exact e.norefs)
theorem node1 (op:Int) (k:PExpr):Ret C 153 [.int .i64 op,.slice [k.cells] .full] (.agg (PExpr.mk op [] 0 [] [k]).cells):=qzh op [k] (by simp[qac])
theorem qmw (op:Int) (k l:PExpr):Ret C 153 [.int .i64 op,.slice [k.cells,l.cells] .full] (.agg (PExpr.mk op [] 0 [] [k,l]).cells):=qzh op [k,l] (by simp[qac])
theorem node3 (op:Int) (k l m:PExpr):Ret C 153 [.int .i64 op,.slice [k.cells,l.cells,m.cells] .full] (.agg (PExpr.mk op [] 0 [] [k,l,m]).cells):=qzh op [k,l,m] (by simp[qac])
theorem mk_c (op:Int) (name:Str) (n:Int) (cons:List Str) (kids:List PExpr) (tk tk':Tk):[AVal.int .i64 op,.str name,.int .i64 n,.slice (cons.map fun s=>[.str s]) tk,.slice (kids.map PExpr.cells) tk'].map qbk=(PExpr.mk op name n cons kids).cells:=by
 rw[PExpr.cells_eq];rfl
theorem prefix_c {m:Nat} {R:Rd} (hR:HypE R) {d:Nat} {ts ts':List PTok} {e:PExpr} (hT:TsOk ts) (hS:qdz m R d ts= .ok e ts'→TsOk ts'∧RdE 247 [] ts d e ts') (h:qfo m R d ts= .ok e ts'):
 TsOk ts'∧RdE 213 [] ts d e ts':=by
 unfold qfo at h
 unfold RdE
 obtain⟨t,r,rfl⟩:=hT.ne
 by_cases h1:hasS [110,111,116] (t::r)=true
 ·rw[if_pos h1]at h
  obtain⟨_,_,hc,hTr,_,_⟩:=hT.hasS h1
  cases hc
  obtain⟨k,ts1,hk,hf⟩:=PR.bind_ok h
  cases hf
  obtain⟨hT',hu,_⟩:=hR _ _ _ _ _ hTr hk
  refine⟨hT',?_⟩
  obtain⟨E,e1,e2⟩:=qlv t r d
  obtain⟨E',u1,u2⟩:=(hu rfl).m rfl
  have q1:=qhk h1
  have hs:=qve h1
  refine qa9 rfl Tryz.func213 rfl (by kernel_rfl) (m:=48) rfl ?_;simp only[Z3,simprocAttr,Tryz.f213,qgq,effs,qbd,q1,e1,e2,u1,u2]
  exact qfa (ts:=ts') (d:=d) (.inl rfl) rfl rfl (by rw[hs];exact mk_c 5 _ 0 [] [k] .full .full) rfl rfl
 have b1:=wh.2 h1
 rw[if_neg h1]at h
 have q1:=qhl (s:=[110,111,116]) (by decide) b1
 by_cases h2:hasS [45] (t::r)=true
 ·rw[if_pos h2]at h
  obtain⟨_,_,hc,hTr,_,_⟩:=hT.hasS h2
  cases hc
  obtain⟨k,ts1,hk,hf⟩:=PR.bind_ok h
  cases hf
  obtain⟨hT',hu,_⟩:=hR _ _ _ _ _ hTr hk
  refine⟨hT',?_⟩
  obtain⟨E,e1,e2⟩:=qlv t r d
  obtain⟨E',u1,u2⟩:=(hu rfl).m rfl
  have q2:=qhk h2
  have hs:=qve h2
  refine qa9 rfl Tryz.func213 rfl (by kernel_rfl) (m:=48) rfl ?_;simp only[Z3,simprocAttr,Tryz.f213,qgq,effs,qbd,q1,q2,e1,e2,u1,u2]
  exact qfa (ts:=ts') (d:=d) (.inl rfl) rfl rfl (by rw[hs];exact mk_c 5 _ 0 [] [k] .full .full) rfl rfl
 have b2:=wh.2 h2
 rw[if_neg h2]at h
 have q2:=qhl (s:=[45]) (by decide) b2
 by_cases h3:hasS [112,114,101] (t::r)=true
 ·rw[if_pos h3]at h
  obtain⟨_,_,hc,hTr,_,_⟩:=hT.hasS h3
  cases hc
  obtain⟨k,ts1,hk,hf⟩:=PR.bind_ok h
  cases hf
  obtain⟨hT',hu,_⟩:=hR _ _ _ _ _ hTr hk
  refine⟨hT',?_⟩
  obtain⟨E,e1,e2⟩:=qlv t r d
  obtain⟨E',u1,u2⟩:=(hu rfl).m rfl
  have q3:=qhk h3
  refine qa9 rfl Tryz.func213 rfl (by kernel_rfl) (m:=48) rfl ?_;simp only[Z3,simprocAttr,Tryz.f213,qgq,effs,qbd,q1,q2,q3,e1,e2,u1,u2,node1 _ _ _]
  exact qfa (ts:=ts') (d:=d) (.inl rfl) rfl rfl (qit _) rfl rfl
 have b3:=wh.2 h3
 rw[if_neg h3]at h
 have q3:=qhl (s:=[112,114,101]) (by decide) b3
 by_cases h4:hasS [105,102] (t::r)=true
 ·rw[if_pos h4]at h
  obtain⟨_,_,hc,hTr,_,_⟩:=hT.hasS h4
  cases hc
  obtain⟨a,ts1,ha,h⟩:=PR.bind_ok h
  obtain⟨hT1,ra⟩:=qdy hR hTr ha
  obtain⟨w1,h⟩:=qa8 h
  obtain⟨t1,r1,hc,hT1',_,_⟩:=hT1.hasS w1
  subst hc
  obtain⟨b,ts2,hb,h⟩:=PR.bind_ok h
  obtain⟨hT2,rb⟩:=qdy hR hT1' hb
  obtain⟨w2,h⟩:=qa8 h
  obtain⟨t2,r2,hc,hT2',_,_⟩:=hT2.hasS w2
  subst hc
  obtain⟨c,ts3,hc,h⟩:=PR.bind_ok h
  obtain⟨hT3,rc⟩:=qdy hR hT2' hc
  cases h
  refine⟨hT3,?_⟩
  obtain⟨E,e1,e2⟩:=qlv t r d
  obtain⟨Ea,a1,a2⟩:=ra.m rfl
  obtain⟨Ew,v1,v2⟩:=qbu _ t1 r1 d w1
  obtain⟨Eb,c1,c2⟩:=rb.m rfl
  obtain⟨Ex,x1,x2⟩:=qbu _ t2 r2 d w2
  obtain⟨Ec,y1,y2,y3⟩:=rc.m3 rfl
  have q4:=qhk h4
  refine qa9 rfl Tryz.func213 rfl (by kernel_rfl) (m:=48) rfl ?_;simp only[Z3,simprocAttr,Tryz.f213,qgq,effs,qbd,q1,q2,q3,q4,e1,e2,a1,a2,v1,v2,c1,c2,x1,x2,y1,y2,bs35_3,kidsV_3,node3 _ _ _ _ _]
  rw[qct]
  ·simp only[Z3,simprocAttr,effs,qgq,bs35_3,kidsV_3,node3 _ _ _ _ _,y2]
   exact qfa (ts:=ts') (d:=d) (.inl rfl) rfl rfl (qit _) rfl rfl
  ·kernel_rfl
  ·have z2:=y3 [Blk.box qa1,Blk.box a.cells,Blk.box b.cells] 2 (by omega) (by simp)
   have z3:=y3 [Blk.box qa1,Blk.box a.cells,Blk.box b.cells] 3 (by omega) (by simp)
   unfold qa1 at z2 z3
   simp only[qaj,qb1,qae,qcs,z2,z3,Bool.not_false,Bool.or_true,Bool.and_true,List.getElem?_cons_succ,List.getElem?_cons_zero]
 have b4:=wh.2 h4
 rw[if_neg h4]at h
 have q4:=qhl (s:=[105,102]) (by decide) b4
 obtain⟨hT',rs⟩:=hS h
 refine⟨hT',?_⟩
 obtain⟨E',u1,u2⟩:=rs.m rfl
 refine qa9 rfl Tryz.func213 rfl (by kernel_rfl) (m:=48) rfl ?_;simp only[Z3,simprocAttr,Tryz.f213,qgq,effs,qbd,q1,q2,q3,q4,u1,u2]
 exact qfa (ts:=ts') (d:=d) (.inl rfl) rfl rfl (qit _) rfl rfl
end Go.Ab
