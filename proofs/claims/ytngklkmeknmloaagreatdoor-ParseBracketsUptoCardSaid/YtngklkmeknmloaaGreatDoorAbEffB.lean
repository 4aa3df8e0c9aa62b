/- What the printer writes of an expression. -/
import Derived.Test.YtngklkmeknmloaaGreatDoorAbBase
import Derived.Test.YtngklkmeknmloaaGreatDoorAbEff
import Derived.Test.YtngklkmeknmloaaGreatDoorAbSize
import Derived.Test.YtngklkmeknmloaaGreatDoorAbTypes
set_option linter.unusedSimpArgs false
set_option linter.unusedVariables false
set_option maxRecDepth 100000
set_option maxHeartbeats 4000000
open Go.Proofs
open List renaming length_append→wa,length_cons→wb,length_nil→wc,append_assoc→wd,getElem?_eq_some_iff→we,cons_append→wg,nil_append→wh,take_of_length_le→wj,getElem_mem→wk,length_map→wm
open Int renaming natCast_zero→wi
open Nat renaming zero_le→wo
namespace Go.Ab
open Go Go.Ab.Tab
theorem keepN:∀n,qa7 (evN PP cmp0 ext0 n)
 |0=>fun f args h r e=>by cases e
 |n+1=>fun f args h r e=>by
  unfold evN at e
  split at e
  ·rename_i g hg
   unfold ext0 at hg
   split at hg
   ·cases hg;exact qrf args h r e
   ·split at hg
    ·cases hg;exact qr2 args h r e
    ·split at hg
     ·cases hg;exact qo0 errT args h r e
     ·split at hg
      ·cases hg;cases e
      ·split at hg
       ·cases hg;cases e
       ·cases hg
  ·exact q0d (keepN n) (qqb n) f args h r e
theorem qay:qa7 C:=fun f args h r e=>by
 obtain⟨n,hn⟩:=qig e
 exact keepN n f args h r hn
theorem qa9 {f:FuncId} {fn:Func} {c:Code} (hx:ext0 f=none) (hf:PP.funcs[f]? =some fn) (hb:fn.body=some c) (hd:qcp c=true) {a:List AVal} {h:qab} {m:Nat} (hm:fn.ntmps-a.length=m) {v:AVal} {h1:qab}
 (e:finE PP h.length fn.results.toList v h1 (qam PP cmp0 C lpC c ⟨a++List.replicate m .undef,h,[]⟩)):qbk C f a h v h1:=q1j qay hx hf hb hd hm e
theorem qbc {f:FuncId} {fn:Func} {c:Code} (hx:ext0 f=none) (hf:PP.funcs[f]? =some fn) (hb:fn.body=some c) (hd:qcp c=true) {a:List AVal} {h:qab} {m:Nat} (hm:fn.ntmps-a.length=m) {v:AVal} (hv:strip3 v=v)
 (e:finP v (qam PP cmp0 C lpC c ⟨a++List.replicate m .undef,h,[]⟩)):Pans C f a h v:=q3c hx hf hb hd hm hv e
end Go.Ab
namespace Go.Ab
open Go Go.Ab.Tab
theorem qdn {f:FuncId} {fn:Func} {c:Code} (hx:ext0 f=none) (hf:PP.funcs[f]? =some fn) (hb:fn.body=some c) (hd:qcp c=true) {a:List AVal} {h:qab} {m:Nat} (hm:fn.ntmps-a.length=m) {v:AVal} {h1:qab}
 (e:finF PP h fn.results.toList v h1 (qam PP cmp0 C lpC c ⟨a++List.replicate m .undef,h,[]⟩)):qbk C f a h v h1:=qzy qay hx hf hb hd hm e
abbrev PrW (f:FuncId) (rest:List AVal) (out:List Str):Prop:=PrC 9 C f rest out
abbrev PrV (f:FuncId) (rest:List AVal) (out:List Str):Prop:=PrO 9 C f rest out
theorem qcn (l:List Str) (hl:l≠[]):PrW 59 [.slice (encS l) .full] l:=by
 intro ws tk h c hb
 have hne:¬encS l=[]:=by cases l with
  |nil=>exact absurd rfl hl
  |cons=>simp[encS]
 have hc:=c
 cases tk with
 |some t=>
  obtain⟨rfl,rfl⟩:=c
  have hap:qdi PP [.box [.slice (encS ws) (.own 1)],.tok ws.length 9] 34 (.slice (encS ws) (.own 1)) (.slice (encS l) .full)=some (.slice (encS (ws++l)) (.own 1),.heap [.box [.slice (encS ws) (.own 1)],.tok (ws++l).length 9] [1]):=by
   rw[qcx _ qgi (by rw[qjv,qjv];exact hb) (qck (qvh _)) (qck (qvh _)) hne (by rw[qjv];rfl) rfl]
   simp[encS_app,qjv]
  refine qdn rfl Tryz.func59 rfl (by kernel_rfl) (m:=11) rfl ?_;simp only[Z3,simprocAttr,Tryz.f59,effs,fx_59,hap]
  exact qdb hc (fun _=>hl) (.inr rfl) rfl (fun _ e=>Option.some.inj e) (fun e=>by cases e) ⟨rfl,by simp⟩
 |none=>
  obtain⟨rfl,rfl⟩:=c
  have hap:qdi PP [.box [.slice [] .full]] 34 (.slice [] .full) (.slice (encS l) .full)=some (.slice (encS l) (.own 1),.heap [.box [.slice [] .full],.tok l.length 9] []):=by
   rw[qch _ qgi (by rw[qjv];simpa using hb) rfl (qck (qvh _)) hne]
   simp[qjv]
  refine qdn rfl Tryz.func59 rfl (by kernel_rfl) (m:=11) rfl ?_;simp only[Z3,simprocAttr,Tryz.f59,effs,fx_59,hap]
  exact qdb hc (fun _=>hl) (.inr rfl) rfl (t:=1) (fun _ e=>by cases e) (fun _=>Nat.le_refl _) ⟨rfl,by simp⟩
end Go.Ab
namespace Go.Ab
open Go Go.Ab.Tab
def qmr (b:Bool):Str:=if b=true then[116,114,117,101]else[102,97,108,115,101]
def kW (ks:List (List Str)) (i:Nat):List Str:=match ks[i]? with|some x=>x|none=>[[63]]
def btwW (a:List Str) (w:Str) (b:List Str):List Str:=[[40]]++a++[w]++b++[[41]]
def armL (cons:List Str) (ks:List (List Str)):List (List Str):=List.zipWith (fun c k=>[c,[45,62]]++k) cons ks
def qjp (word name:Str) (cons:List Str) (ks:List (List Str)):List Str:=[word,name,[40]]++sepW [124] (armL cons ks)++[[41]]
def qer (l:List Str) (sign:Str):List Str:=sepW sign (l.map fun s=>[s])
def brW (l:List Str):List Str:=if l.length=0 then[]else[[91]]++qer l [44]++[[93]]
def qms (name:Str) (cons:List Str) (ks:List (List Str)):List Str:=[name]++brW cons++[[40]]++sepW [44] ks++[[41]]
def qmx (op:Int) (name:Str) (n:Int) (cons:List Str) (ks:List (List Str)):List Str:=
 if op=1 then[decB n]else if op=2 then[qmr (n==1)]else if op=3 then[name]else if op=4 then[name]
 else if op=5 then[[40],name]++kW ks 0++[[41]]
 else if op=6 then btwW (kW ks 0) name (kW ks 1)
 else if op=7 then[[40],[105,102]]++kW ks 0++[[116,104,101,110]]++kW ks 1++[[101,108,115,101]]++kW ks 2++[[41]]
 else if op=8 then btwW (kW ks 0) [102,98,121] (kW ks 1)
 else if op=10 then btwW (kW ks 0) [45,62] (kW ks 1)
 else if op=15 then btwW (kW ks 0) [101,118,101,114,121] (kW ks 1)
 else if op=9 then[[40],[112,114,101]]++kW ks 0++[[41]]
 else if op=11 then[[40]]++kW ks 0++[[119,104,101,110]]++qer cons [44]++[[40],name,[41],[41]]
 else if op=12 then qjp [109,101,114,103,101] name cons ks
 else if op=13 then qjp [109,97,116,99,104] name cons ks
 else if op=14 then qms name cons ks
 else[[63]]
mutual
def PExpr.words:PExpr→List Str
 | .mk op name n cons kids=>qmx op name n cons (qw8 kids)
def qw8:List PExpr→List (List Str)
 |[]=>[]
 |k::r=>k.words::qw8 r
end
theorem qw9 (l:List PExpr):qw8 l=l.map PExpr.words:=by
 induction l with
 |nil=>rfl
 |cons x r ih=>simp only[qw8,ih,List.map_cons]
theorem qas (e:PExpr):e.words=qmx e.op e.name e.n e.cons (e.kids.map PExpr.words):=by
 cases e;simp only[PExpr.words,qw9,PExpr.op,PExpr.name,PExpr.n,PExpr.cons,PExpr.kids]
def kidW (e:PExpr) (i:Nat):List Str:=kW (e.kids.map PExpr.words) i
theorem qoa (e:PExpr) (i:Nat) (hl:e.kids.length≤qac) (ih:∀x∈e.kids,PrV 54 [.agg x.cells] x.words):PrV 103 [.agg e.cells,.int .i64 i] (kidW e i):=by
 intro ws hb
 obtain⟨h,hh⟩:∃h,h=pOwn 9 ws:=⟨_,rfl⟩
 rw[←hh]
 have c:Canon 9 h ws (some 1):=⟨rfl,hh⟩
 clear hh
 have p0:=c.at
 have hpos:0<h.length:=by
  exact(we.1 p0.1).1
 by_cases hi:i<e.kids.length
 ·have e1:decide ((e.kids.length:Int)≤(i:Int))=false:=decide_eq_false (by omega)
  have e3:=qij e.kids i hi
  have hw:kidW e i=e.kids[i].words:=by simp[kidW,kW,hi]
  rw[hw]at hb ⊢
  have c1:=ih e.kids[i] (wk hi)
  refine qdn rfl Tryz.func103 rfl (by kernel_rfl) (m:=18) rfl ?_;simp only[Z3,Nat.reduceAdd,Nat.reduceBEq,Int.reduceBEq,Int.reduceBNe,Int.reduceLT,Int.reduceLE,Tryz.f103,effs,qww,e1,e3]
  obtain⟨E1,hE1,p1,o1,l1⟩:=qba qay c1 (by simp[qad,refs,e.kids[i].norefs]) (p0.app [.box e.cells]) (by(try simp only[wa,wb,wc]at hb);(try simp only[wa,wb,wc]);omega)
  simp only[Z3,Nat.reduceAdd,Nat.reduceBEq,Int.reduceBEq,Int.reduceBNe,Int.reduceLT,Int.reduceLE,effs,qww,ty,hE1]
  clear hE1;generalize hh1:Eff.of (h++[.box e.cells]) E1=h1 at*;clear hh1
  exact qdb c (fun e=>by cases e) (.inr rfl) rfl (t:=1) (fun _ e=>Option.some.inj e) (fun e=>by cases e) (by simpa only[wd,wg,wh]using p1)
 ·have e1:decide ((e.kids.length:Int)≤(i:Int))=true:=decide_eq_true (by omega)
  have hw:kidW e i=[[63]]:=by simp[kidW,kW,hi]
  rw[hw]at hb ⊢
  refine qdn rfl Tryz.func103 rfl (by kernel_rfl) (m:=18) rfl ?_;simp only[Z3,Nat.reduceAdd,Nat.reduceBEq,Int.reduceBEq,Int.reduceBNe,Int.reduceLT,Int.reduceLE,Tryz.f103,effs,qww,e1]
  obtain⟨E1,hE1,p1,o1,l1⟩:=qba qay (show PrW 59 [.slice [[.str [63]]] .full] [[63]]from qcn [[63]] (by simp)).own rfl (p0.app [.box e.cells]) (by(try simp only[wa,wb,wc]at hb);(try simp only[wa,wb,wc]);omega)
  simp only[Z3,Nat.reduceAdd,Nat.reduceBEq,Int.reduceBEq,Int.reduceBNe,Int.reduceLT,Int.reduceLE,effs,qww,ty,hE1]
  clear hE1;generalize hh1:Eff.of (h++[.box e.cells]) E1=h1 at*;clear hh1
  exact qdb c (fun e=>by cases e) (.inl rfl) rfl (t:=1) (fun _ e=>Option.some.inj e) (fun e=>by cases e) (by simpa only[wd,wg,wh]using p1)
theorem qob (e:PExpr) (s:Str) (hl:e.kids.length≤qac) (ih:∀x∈e.kids,PrV 54 [.agg x.cells] x.words):PrW 104 [.agg e.cells,.str s] (btwW (kidW e 0) s (kidW e 1)):=by
 intro ws tk h c hb
 have p0:=c.at
 have hpos:0<h.length:=by
  cases tk with
  |none=>exact(we.1 p0.2).1
  |some t=>exact(we.1 p0.1).1
 have k0:PrV 103 [.agg e.cells,.int .i64 0] (kidW e 0):=qoa e 0 hl ih
 have k1:PrV 103 [.agg e.cells,.int .i64 1] (kidW e 1):=qoa e 1 hl ih
 unfold btwW at hb ⊢
 have b_0:(h++[Blk.box e.cells])[h.length]? =some (.box e.cells):=qcj _ _
 refine qdn rfl Tryz.func104 rfl (by kernel_rfl) (m:=19) rfl ?_;simp only[Z3,Nat.reduceAdd,Nat.reduceBEq,Int.reduceBEq,Int.reduceBNe,Int.reduceLT,Int.reduceLE,Tryz.f104,effs,qpb]
 obtain⟨E1,hE1,tt,htt,hnn,p1,o1,l1⟩:=qds qay (show PrW 59 [.slice [[.str [40]]] .full] [[40]]from qcn [[40]] (by simp)) rfl (p0.app [.box e.cells]) (by(try simp only[wa,wb,wc]at hb);(try simp only[wa,wb,wc]);omega)
 have b_1:(Eff.of (h++[.box e.cells]) E1)[h.length]? =some (.box e.cells):=o1 _ _ (by omega) b_0
 simp only[Z3,Nat.reduceAdd,Nat.reduceBEq,Int.reduceBEq,Int.reduceBNe,Int.reduceLT,Int.reduceLE,effs,qpb,ty,b_1,hE1]
 clear hE1;generalize hh1:Eff.of (h++[.box e.cells]) E1=h1 at*;clear hh1
 obtain⟨E2,hE2,p2,o2,l2⟩:=qba qay k0 (by simp[qad,refs,e.norefs]) p1 (by(try simp only[wa,wb,wc]at hb);(try simp only[wa,wb,wc]);omega)
 have b_2:(Eff.of h1 E2)[h.length]? =some (.box e.cells):=o2 _ _ (by omega) b_1
 simp only[Z3,Nat.reduceAdd,Nat.reduceBEq,Int.reduceBEq,Int.reduceBNe,Int.reduceLT,Int.reduceLE,effs,qpb,ty,b_2,hE2]
 clear hE2;generalize hh2:Eff.of h1 E2=h2 at*;clear hh2
 obtain⟨E3,hE3,p3,o3,l3⟩:=qba qay (show PrW 59 [.slice [[.str s]] .full] [s]from qcn [s] (by simp)).own rfl p2 (by(try simp only[wa,wb,wc]at hb);(try simp only[wa,wb,wc]);omega)
 have b_3:(Eff.of h2 E3)[h.length]? =some (.box e.cells):=o3 _ _ (by omega) b_2
 simp only[Z3,Nat.reduceAdd,Nat.reduceBEq,Int.reduceBEq,Int.reduceBNe,Int.reduceLT,Int.reduceLE,effs,qpb,ty,b_3,hE3]
 clear hE3;generalize hh3:Eff.of h2 E3=h3 at*;clear hh3
 obtain⟨E4,hE4,p4,o4,l4⟩:=qba qay k1 (by simp[qad,refs,e.norefs]) p3 (by(try simp only[wa,wb,wc]at hb);(try simp only[wa,wb,wc]);omega)
 have b_4:(Eff.of h3 E4)[h.length]? =some (.box e.cells):=o4 _ _ (by omega) b_3
 simp only[Z3,Nat.reduceAdd,Nat.reduceBEq,Int.reduceBEq,Int.reduceBNe,Int.reduceLT,Int.reduceLE,effs,qpb,ty,b_4,hE4]
 clear hE4;generalize hh4:Eff.of h3 E4=h4 at*;clear hh4
 obtain⟨E5,hE5,p5,o5,l5⟩:=qba qay (show PrW 59 [.slice [[.str [41]]] .full] [[41]]from qcn [[41]] (by simp)).own rfl p4 (by(try simp only[wa,wb,wc]at hb);(try simp only[wa,wb,wc]);omega)
 have b_5:(Eff.of h4 E5)[h.length]? =some (.box e.cells):=o5 _ _ (by omega) b_4
 simp only[Z3,Nat.reduceAdd,Nat.reduceBEq,Int.reduceBEq,Int.reduceBNe,Int.reduceLT,Int.reduceLE,effs,qpb,ty,b_5,hE5]
 clear hE5;generalize hh5:Eff.of h4 E5=h5 at*;clear hh5
 exact qdb c (fun _=>by simp) (.inr rfl) rfl htt (fun e=>by have:=hnn e;simp only[wa]at this;omega) (by simpa only[wd,wg,wh]using p5)
theorem list_c (l:List Str) (sign:Str) (hl:l.length≤qac):PrV 60 [qaf l,.str sign] (qer l sign):=by
 intro ws hb
 obtain⟨h,hh⟩:∃h,h=pOwn 9 ws:=⟨_,rfl⟩
 rw[←hh]
 have c:Canon 9 h ws (some 1):=⟨rfl,hh⟩
 clear hh
 have p0:=c.at
 have hpos:0<h.length:=by
  exact(we.1 p0.1).1
 unfold qer at hb ⊢
 refine qdn rfl Tryz.func60 rfl (by kernel_rfl) (m:=23) rfl ?_;simp only[Z3,Nat.reduceAdd,Nat.reduceBEq,Int.reduceBEq,Int.reduceBNe,Int.reduceLT,Int.reduceLE,Tryz.f60,effs,qn2,qaf]
 generalize hbl:qam PP cmp0 C lpC _=f;generalize hl0:lpC f _=r
 obtain⟨ex,s',rfl,rfl,h2⟩:=qd0 (α:=Nat) hl0 [6,7,11,12,13,14,15,16,17,18,19,20,21,22,23,24,25] (fun i=>[(10,.int .i64 i)]) (fun i g=>i≤l.length∧PrAt 9 g 0 (ws++sepW sign ((l.map fun s=>[s]).take i)) (some 1)) (fun i=>l.length-i) (fun _=>()) (fun ts _ ex s=>ex= .exit 0∧OutT [6,7,10,11,12,13,14,15,16,17,18,19,20,21,22,23,24,25] ts [] (fun g=>PrAt 9 g 0 (ws++sepW sign (l.map fun s=>[s])) (some 1)) s) 0 ⟨wo _,by simpa[sepW]using p0⟩ (by simp only[AtT,ats,wi]) (by
  rintro i j g d ⟨hi,pi⟩
  clear hl0;subst hbl
  have hg0:0<g.length:=(we.1 pi.1).1
  by_cases hlt:i<l.length
  ·have e1:((i:Int)<(l.length)):=by omega
   have e3:=qg3 l i hlt
   have hq:=qq2 sign (l.map fun s=>[s]) (i+1)
   have hsp:=qn9 sign (l.map fun s=>[s]) i [l[i]] (by simp[hlt])
   rw[hsp]at hq
   rcases i with _|i
   ·skip
    rw[if_pos rfl]at hsp hq
    have e4:decide ((0:Int)<((0:Nat):Int))=false:=rfl
    have e5:decide ((0:Int)<0)=false:=rfl
    have pi0:PrAt 9 g 0 (ws) (some 1):=by simpa[sepW]using pi
    simp only[Z3,Nat.reduceAdd,Nat.reduceBEq,Int.reduceBEq,Int.reduceBNe,Int.reduceLT,Int.reduceLE,effs,qn2,ty,e1,e3,e4,e5]
    obtain⟨E1,hE1,p1,o1,l1⟩:=qba qay (show PrW 59 [.slice [[.str l[0]]] .full] [l[0]]from qcn [l[0]] (by simp)).own rfl pi0 (by(try simp only[wa,wb,wc]at hb);(try simp only[wa,wb,wc]at hq);(try simp only[wa,wb,wc]);omega)
    simp only[Z3,Nat.reduceAdd,Nat.reduceBEq,Int.reduceBEq,Int.reduceBNe,Int.reduceLT,Int.reduceLE,effs,qn2,ty,e1,e3,e4,e5,hE1,qav (show 0≤qac by omega)]
    clear hE1;generalize hh1:Eff.of g E1=h1 at*;clear hh1
    exact .inl ⟨0+1,_,rfl,⟨hlt,by rw[hsp];simpa only[wd]using p1⟩,by simp only[AtT,ats,wi],by(try simp only[]);omega,by first|rfl|trivial⟩
   ·skip
    rw[if_neg (by omega)]at hsp hq
    have e4:decide ((0:Int)<((i+1:Nat):Int))=true:=decide_eq_true (by omega)
    have e5:=e4
    simp only[Z3,Nat.reduceAdd,Nat.reduceBEq,Int.reduceBEq,Int.reduceBNe,Int.reduceLT,Int.reduceLE,effs,qn2,ty,e1,e3,e4,e5]
    obtain⟨E1,hE1,p1,o1,l1⟩:=qba qay (show PrW 59 [.slice [[.str sign]] .full] [sign]from qcn [sign] (by simp)).own rfl pi (by(try simp only[wa,wb,wc]at hb);(try simp only[wa,wb,wc]at hq);(try simp only[wa,wb,wc]);omega)
    simp only[Z3,Nat.reduceAdd,Nat.reduceBEq,Int.reduceBEq,Int.reduceBNe,Int.reduceLT,Int.reduceLE,effs,qn2,ty,e1,e3,e4,e5,hE1]
    clear hE1;generalize hh1:Eff.of g E1=h1 at*;clear hh1
    obtain⟨E2,hE2,p2,o2,l2⟩:=qba qay (show PrW 59 [.slice [[.str l[i+1]]] .full] [l[i+1]]from qcn [l[i+1]] (by simp)).own rfl p1 (by(try simp only[wa,wb,wc]at hb);(try simp only[wa,wb,wc]at hq);(try simp only[wa,wb,wc]);omega)
    simp only[Z3,Nat.reduceAdd,Nat.reduceBEq,Int.reduceBEq,Int.reduceBNe,Int.reduceLT,Int.reduceLE,effs,qn2,ty,e1,e3,e4,e5,hE2,qav (show i+1≤qac by omega)]
    clear hE2;generalize hh2:Eff.of h1 E2=h2 at*;clear hh2
    exact .inl ⟨i+1+1,_,rfl,⟨hlt,by rw[hsp];simpa only[wd]using p2⟩,by simp only[AtT,ats,wi],by(try simp only[]);omega,by first|rfl|trivial⟩
  ·have e1:¬((i:Int)<(l.length)):=by omega
   simp only[Z3,Nat.reduceAdd,Nat.reduceBEq,Int.reduceBEq,Int.reduceBNe,Int.reduceLT,Int.reduceLE,effs,qn2,ty,e1]
   have:(l.map fun s=>[s]).take i=l.map fun s=>[s]:=wj (by simp only[wm];omega)
   rw[this]at pi
   exact .inr ⟨_,_,rfl,by simp,rfl,⟨by simp only[AtT,ats],by simpa only[wd,wg,wh]using pi⟩⟩)
 obtain⟨j,H,d,pf,rfl⟩:=h2.elim
 clear hl0
 simp only[Z3,Nat.reduceAdd,Nat.reduceBEq,Int.reduceBEq,Int.reduceBNe,Int.reduceLT,Int.reduceLE,qn2]
 exact qdb c (fun e=>by cases e) (.inr rfl) rfl (t:=1) (fun _ e=>Option.some.inj e) (fun e=>by cases e) (by simpa only[wd,wg,wh]using pf)
theorem arms_c (e:PExpr) (word:Str) (hs:e.Small) (ih:∀x∈e.kids,PrV 54 [.agg x.cells] x.words):PrW 105 [.str word,.agg e.cells] (qjp word e.name e.cons (e.kids.map PExpr.words)):=by
 intro ws tk h c hb
 have p0:=c.at
 have hpos:0<h.length:=by
  cases tk with
  |none=>exact(we.1 p0.2).1
  |some t=>exact(we.1 p0.1).1
 have hl1:=hs.kids.1
 have hl2:=hs.cons.1
 unfold qjp at hb ⊢
 obtain⟨n,hn0⟩:∃n,n=min e.kids.length e.cons.length:=⟨_,rfl⟩
 have hn:(if(e.cons.length:Int)<(e.kids.length:Int)then(e.cons.length:Int)else(e.kids.length:Int))=(n:Int):=by
  split<;>omega
 have hnl:(armL e.cons (e.kids.map PExpr.words)).length=n:=by simp only[armL,List.length_zipWith,wm];omega
 have b_0:(h++[Blk.box e.cells])[h.length]? =some (.box e.cells):=qcj _ _
 refine qdn rfl Tryz.func105 rfl (by kernel_rfl) (m:=44) rfl ?_;simp only[Z3,Nat.reduceAdd,Nat.reduceBEq,Int.reduceBEq,Int.reduceBNe,Int.reduceLT,Int.reduceLE,Tryz.f105,effs,qhy]
 obtain⟨E1,hE1,tt,htt,hnn,p1,o1,l1⟩:=qds qay (show PrW 59 [.slice [[.str word],[.str e.name],[.str [40]]] .full] [word,e.name,[40]]from qcn [word,e.name,[40]] (by simp)) rfl (p0.app [.box e.cells]) (by(try simp only[wa,wb,wc]at hb);(try simp only[wa,wb,wc]);omega)
 have b_1:(Eff.of (h++[.box e.cells]) E1)[h.length]? =some (.box e.cells):=o1 _ _ (by omega) b_0
 simp only[Z3,Nat.reduceAdd,Nat.reduceBEq,Int.reduceBEq,Int.reduceBNe,Int.reduceLT,Int.reduceLE,effs,qhy,ty,b_1,qaf,hn,hE1]
 clear hE1;generalize hh1:Eff.of (h++[.box e.cells]) E1=h1 at*;clear hh1
 generalize hbl:qam PP cmp0 C lpC _=f;generalize hl0:lpC f _=r
 obtain⟨ex,s',rfl,rfl,h2⟩:=qd0 (α:=Nat) hl0 [6,21,22,23,24,25,26,27,28,29,30,31,32,33,34,35,36,37,38,39,40,41,42,43] (fun i=>[(20,.int .i64 i)]) (fun i g=>i≤n∧PrAt 9 g 0 (ws++[word,e.name,[40]]++sepW [124] ((armL e.cons (e.kids.map PExpr.words)).take i)) (some tt)∧g[h.length]? =some (.box e.cells)) (fun i=>n-i) (fun _=>()) (fun ts _ ex s=>ex= .exit 0∧OutT [6,20,21,22,23,24,25,26,27,28,29,30,31,32,33,34,35,36,37,38,39,40,41,42,43] ts [] (fun g=>PrAt 9 g 0 (ws++[word,e.name,[40]]++sepW [124] (armL e.cons (e.kids.map PExpr.words))) (some tt)∧g[h.length]? =some (.box e.cells)) s) 0 ⟨wo _,by simpa[sepW]using p1,b_1⟩ (by simp only[AtT,ats,wi]) (by
  rintro i j g d ⟨hi,pi,bg_0⟩
  clear hl0;subst hbl
  have hg0:0<g.length:=(we.1 pi.1).1
  by_cases hlt:i<n
  ·have e1:((i:Int)<(n)):=by omega
   have hk1:i<e.kids.length:=by omega
   have hk2:i<e.cons.length:=by omega
   have e3:=qg3 e.cons i hk2
   have e3k:=qij e.kids i hk1
   have hmk:=wk hk1
   have hq:=qq2 [124] (armL e.cons (e.kids.map PExpr.words)) (i+1)
   have hsp:=qn9 [124] (armL e.cons (e.kids.map PExpr.words)) i ([e.cons[i],[45,62]]++e.kids[i].words) (by simp[armL,List.getElem?_zipWith,hk1,hk2])
   rw[hsp]at hq
   rcases i with _|i
   ·skip
    rw[if_pos rfl]at hsp hq
    have e4:decide ((0:Int)<((0:Nat):Int))=false:=rfl
    have e5:decide ((0:Int)<0)=false:=rfl
    have pi0:PrAt 9 g 0 (ws++[word,e.name,[40]]) (some tt):=by simpa[sepW]using pi
    simp only[Z3,Nat.reduceAdd,Nat.reduceBEq,Int.reduceBEq,Int.reduceBNe,Int.reduceLT,Int.reduceLE,effs,qhy,ty,bg_0,qaf,e1,e3,e3k,e4,e5]
    obtain⟨E1,hE1,p1,o1,l1⟩:=qba qay (show PrW 59 [.slice [[.str e.cons[0]],[.str [45,62]]] .full] [e.cons[0],[45,62]]from qcn [e.cons[0],[45,62]] (by simp)).own rfl pi0 (by(try simp only[wa,wb,wc]at hb);(try simp only[wa,wb,wc]at hq);(try simp only[wa,wb,wc]);omega)
    have bg_1:(Eff.of g E1)[h.length]? =some (.box e.cells):=o1 _ _ (by omega) bg_0
    simp only[Z3,Nat.reduceAdd,Nat.reduceBEq,Int.reduceBEq,Int.reduceBNe,Int.reduceLT,Int.reduceLE,effs,qhy,ty,bg_1,qaf,e1,e3,e3k,e4,e5,hE1]
    clear hE1;generalize hh1:Eff.of g E1=h1 at*;clear hh1
    obtain⟨E2,hE2,p2,o2,l2⟩:=qba qay (ih e.kids[0] hmk) (by simp[qad,refs,e.kids[0].norefs]) p1 (by(try simp only[wa,wb,wc]at hb);(try simp only[wa,wb,wc]at hq);(try simp only[wa,wb,wc]);omega)
    have bg_2:(Eff.of h1 E2)[h.length]? =some (.box e.cells):=o2 _ _ (by omega) bg_1
    simp only[Z3,Nat.reduceAdd,Nat.reduceBEq,Int.reduceBEq,Int.reduceBNe,Int.reduceLT,Int.reduceLE,effs,qhy,ty,bg_2,qaf,e1,e3,e3k,e4,e5,hE2,qav (show 0≤qac by omega)]
    clear hE2;generalize hh2:Eff.of h1 E2=h2 at*;clear hh2
    exact .inl ⟨0+1,_,rfl,⟨hlt,by rw[hsp];simpa only[wd,wg,wh]using p2,bg_2⟩,by simp only[AtT,ats,wi],by(try simp only[]);omega,by first|rfl|trivial⟩
   ·skip
    rw[if_neg (by omega)]at hsp hq
    have e4:decide ((0:Int)<((i+1:Nat):Int))=true:=decide_eq_true (by omega)
    have e5:=e4
    simp only[Z3,Nat.reduceAdd,Nat.reduceBEq,Int.reduceBEq,Int.reduceBNe,Int.reduceLT,Int.reduceLE,effs,qhy,ty,bg_0,qaf,e1,e3,e3k,e4,e5]
    obtain⟨E1,hE1,p1,o1,l1⟩:=qba qay (show PrW 59 [.slice [[.str [124]]] .full] [[124]]from qcn [[124]] (by simp)).own rfl pi (by(try simp only[wa,wb,wc]at hb);(try simp only[wa,wb,wc]at hq);(try simp only[wa,wb,wc]);omega)
    have bg_1:(Eff.of g E1)[h.length]? =some (.box e.cells):=o1 _ _ (by omega) bg_0
    simp only[Z3,Nat.reduceAdd,Nat.reduceBEq,Int.reduceBEq,Int.reduceBNe,Int.reduceLT,Int.reduceLE,effs,qhy,ty,bg_1,qaf,e1,e3,e3k,e4,e5,hE1]
    clear hE1;generalize hh1:Eff.of g E1=h1 at*;clear hh1
    obtain⟨E2,hE2,p2,o2,l2⟩:=qba qay (show PrW 59 [.slice [[.str e.cons[i+1]],[.str [45,62]]] .full] [e.cons[i+1],[45,62]]from qcn [e.cons[i+1],[45,62]] (by simp)).own rfl p1 (by(try simp only[wa,wb,wc]at hb);(try simp only[wa,wb,wc]at hq);(try simp only[wa,wb,wc]);omega)
    have bg_2:(Eff.of h1 E2)[h.length]? =some (.box e.cells):=o2 _ _ (by omega) bg_1
    simp only[Z3,Nat.reduceAdd,Nat.reduceBEq,Int.reduceBEq,Int.reduceBNe,Int.reduceLT,Int.reduceLE,effs,qhy,ty,bg_2,qaf,e1,e3,e3k,e4,e5,hE2]
    clear hE2;generalize hh2:Eff.of h1 E2=h2 at*;clear hh2
    obtain⟨E3,hE3,p3,o3,l3⟩:=qba qay (ih e.kids[i+1] hmk) (by simp[qad,refs,e.kids[i+1].norefs]) p2 (by(try simp only[wa,wb,wc]at hb);(try simp only[wa,wb,wc]at hq);(try simp only[wa,wb,wc]);omega)
    have bg_3:(Eff.of h2 E3)[h.length]? =some (.box e.cells):=o3 _ _ (by omega) bg_2
    simp only[Z3,Nat.reduceAdd,Nat.reduceBEq,Int.reduceBEq,Int.reduceBNe,Int.reduceLT,Int.reduceLE,effs,qhy,ty,bg_3,qaf,e1,e3,e3k,e4,e5,hE3,qav (show i+1≤qac by omega)]
    clear hE3;generalize hh3:Eff.of h2 E3=h3 at*;clear hh3
    exact .inl ⟨i+1+1,_,rfl,⟨hlt,by rw[hsp];simpa only[wd,wg,wh]using p3,bg_3⟩,by simp only[AtT,ats,wi],by(try simp only[]);omega,by first|rfl|trivial⟩
  ·have e1:¬((i:Int)<(n)):=by omega
   simp only[Z3,Nat.reduceAdd,Nat.reduceBEq,Int.reduceBEq,Int.reduceBNe,Int.reduceLT,Int.reduceLE,effs,qhy,ty,e1]
   have:(armL e.cons (e.kids.map PExpr.words)).take i=armL e.cons (e.kids.map PExpr.words):=wj (by omega)
   rw[this]at pi
   exact .inr ⟨_,_,rfl,by simp,rfl,⟨by simp only[AtT,ats],by simpa only[wd,wg,wh]using pi,bg_0⟩⟩)
 obtain⟨j,H,d,⟨pf,bf_0⟩,rfl⟩:=h2.elim
 clear hl0
 simp only[Z3,Nat.reduceAdd,Nat.reduceBEq,Int.reduceBEq,Int.reduceBNe,Int.reduceLT,Int.reduceLE,effs,qhy]
 obtain⟨E11,hE11,p11,o11,l11⟩:=qba qay (show PrW 59 [.slice [[.str [41]]] .full] [[41]]from qcn [[41]] (by simp)).own rfl pf (by(try simp only[wa,wb,wc]at hb);(try simp only[wa,wb,wc]);omega)
 simp only[Z3,Nat.reduceAdd,Nat.reduceBEq,Int.reduceBEq,Int.reduceBNe,Int.reduceLT,Int.reduceLE,effs,qhy,ty,hE11]
 clear hE11;generalize hh11:Eff.of H E11=h11 at*;clear hh11
 exact qdb c (fun _=>by simp) (.inr rfl) rfl htt (fun e=>by have:=hnn e;simp only[wa]at this;omega) (by simpa only[wd,wg,wh]using p11)
theorem call_c (e:PExpr) (hs:e.Small) (ih:∀x∈e.kids,PrV 54 [.agg x.cells] x.words):PrW 106 [.agg e.cells] (qms e.name e.cons (e.kids.map PExpr.words)):=by
 intro ws tk h c hb
 have p0:=c.at
 have hpos:0<h.length:=by
  cases tk with
  |none=>exact(we.1 p0.2).1
  |some t=>exact(we.1 p0.1).1
 have hl1:=hs.kids.1
 have hl2:=hs.cons.1
 have klist:PrV 60 [qaf e.cons,.str [44]] (qer e.cons [44]):=list_c e.cons [44] hl2
 unfold qms at hb ⊢
 have b_0:(h++[Blk.box e.cells])[h.length]? =some (.box e.cells):=qcj _ _
 refine qdn rfl Tryz.func106 rfl (by kernel_rfl) (m:=46) rfl ?_;simp only[Z3,Nat.reduceAdd,Nat.reduceBEq,Int.reduceBEq,Int.reduceBNe,Int.reduceLT,Int.reduceLE,Tryz.f106,effs,qda]
 obtain⟨E1,hE1,tt,htt,hnn,p1,o1,l1⟩:=qds qay (show PrW 59 [.slice [[.str e.name]] .full] [e.name]from qcn [e.name] (by simp)) rfl (p0.app [.box e.cells]) (by(try simp only[wa,wb,wc]at hb);(try simp only[wa,wb,wc]);omega)
 have b_1:(Eff.of (h++[.box e.cells]) E1)[h.length]? =some (.box e.cells):=o1 _ _ (by omega) b_0
 simp only[Z3,Nat.reduceAdd,Nat.reduceBEq,Int.reduceBEq,Int.reduceBNe,Int.reduceLT,Int.reduceLE,effs,qda,ty,b_1,hE1]
 clear hE1;generalize hh1:Eff.of (h++[.box e.cells]) E1=h1 at*;clear hh1
 by_cases hz:e.cons.length=0
 ·have e0:decide ((0:Int)<(e.cons.length:Int))=false:=decide_eq_false (by omega)
  have hbr:brW e.cons=[]:=if_pos hz
  rw[hbr]at hb ⊢
  simp only[List.append_nil]at hb ⊢
  simp only[Z3,Nat.reduceAdd,Nat.reduceBEq,Int.reduceBEq,Int.reduceBNe,Int.reduceLT,Int.reduceLE,effs,qda,ty,b_1,e0,qf2]
  obtain⟨E2,hE2,p2,o2,l2⟩:=qba qay (show PrW 59 [.slice [[.str [40]]] .full] [[40]]from qcn [[40]] (by simp)).own rfl p1 (by(try simp only[wa,wb,wc]at hb);(try simp only[wa,wb,wc]);omega)
  have b_2:(Eff.of h1 E2)[h.length]? =some (.box e.cells):=o2 _ _ (by omega) b_1
  simp only[Z3,Nat.reduceAdd,Nat.reduceBEq,Int.reduceBEq,Int.reduceBNe,Int.reduceLT,Int.reduceLE,effs,qda,ty,b_2,e0,qf2,hE2]
  clear hE2;generalize hh2:Eff.of h1 E2=h2 at*;clear hh2
  generalize hbl:qam PP cmp0 C lpC _=f;generalize hl0:lpC f _=r
  obtain⟨ex,s',rfl,rfl,h2⟩:=qd0 (α:=Nat) hl0 [4,5,32,33,34,35,36,37,38,39,40,41,42,43,44] (fun i=>[(31,.int .i64 i)]) (fun i g=>i≤e.kids.length∧PrAt 9 g 0 (ws++[e.name]++[[40]]++sepW [44] ((e.kids.map PExpr.words).take i)) (some tt)) (fun i=>e.kids.length-i) (fun _=>()) (fun ts _ ex s=>ex= .exit 0∧OutT [4,5,31,32,33,34,35,36,37,38,39,40,41,42,43,44] ts [] (fun g=>PrAt 9 g 0 (ws++[e.name]++[[40]]++sepW [44] (e.kids.map PExpr.words)) (some tt)) s) 0 ⟨wo _,by simpa[sepW]using p2⟩ (by simp only[AtT,ats,wi]) (by
   rintro i j g d ⟨hi,pi⟩
   clear hl0;subst hbl
   have hg0:0<g.length:=(we.1 pi.1).1
   by_cases hlt:i<e.kids.length
   ·have e1:((i:Int)<(e.kids.length)):=by omega
    have e3k:=qij e.kids i hlt
    have hmk:=wk hlt
    have hq:=qq2 [44] (e.kids.map PExpr.words) (i+1)
    have hsp:=qn9 [44] (e.kids.map PExpr.words) i e.kids[i].words (by simp[hlt])
    rw[hsp]at hq
    rcases i with _|i
    ·skip
     rw[if_pos rfl]at hsp hq
     have e4:decide ((0:Int)<((0:Nat):Int))=false:=rfl
     have e5:decide ((0:Int)<0)=false:=rfl
     have pi0:PrAt 9 g 0 (ws++[e.name]++[[40]]) (some tt):=by simpa[sepW]using pi
     have bx_0:(g++[Blk.box e.kids[0].cells])[g.length]? =some (.box e.kids[0].cells):=qcj _ _
     simp only[Z3,Nat.reduceAdd,Nat.reduceBEq,Int.reduceBEq,Int.reduceBNe,Int.reduceLT,Int.reduceLE,effs,qda,ty,bx_0,e1,e3k,e4,e5]
     obtain⟨E1,hE1,p1,o1,l1⟩:=qba qay (ih e.kids[0] hmk) (by simp[qad,refs,e.kids[0].norefs]) (pi0.app [.box e.kids[0].cells]) (by(try simp only[wa,wb,wc]at hb);(try simp only[wa,wb,wc]at hq);(try simp only[wa,wb,wc]);omega)
     have bx_1:(Eff.of (g++[.box e.kids[0].cells]) E1)[g.length]? =some (.box e.kids[0].cells):=o1 _ _ (by omega) bx_0
     simp only[Z3,Nat.reduceAdd,Nat.reduceBEq,Int.reduceBEq,Int.reduceBNe,Int.reduceLT,Int.reduceLE,effs,qda,ty,bx_1,e1,e3k,e4,e5,hE1,qav (show 0≤qac by omega)]
     clear hE1;generalize hh1:Eff.of (g++[.box e.kids[0].cells]) E1=h1 at*;clear hh1
     exact .inl ⟨0+1,_,rfl,⟨hlt,by rw[hsp];simpa only[wd,wg,wh]using p1⟩,by simp only[AtT,ats,wi],by(try simp only[]);omega,by first|rfl|trivial⟩
    ·skip
     rw[if_neg (by omega)]at hsp hq
     have e4:decide ((0:Int)<((i+1:Nat):Int))=true:=decide_eq_true (by omega)
     have e5:=e4
     have bx_0:(g++[Blk.box e.kids[i+1].cells])[g.length]? =some (.box e.kids[i+1].cells):=qcj _ _
     simp only[Z3,Nat.reduceAdd,Nat.reduceBEq,Int.reduceBEq,Int.reduceBNe,Int.reduceLT,Int.reduceLE,effs,qda,ty,bx_0,e1,e3k,e4,e5]
     obtain⟨E1,hE1,p1,o1,l1⟩:=qba qay (show PrW 59 [.slice [[.str [44]]] .full] [[44]]from qcn [[44]] (by simp)).own rfl (pi.app [.box e.kids[i+1].cells]) (by(try simp only[wa,wb,wc]at hb);(try simp only[wa,wb,wc]at hq);(try simp only[wa,wb,wc]);omega)
     have bx_1:(Eff.of (g++[.box e.kids[i+1].cells]) E1)[g.length]? =some (.box e.kids[i+1].cells):=o1 _ _ (by omega) bx_0
     simp only[Z3,Nat.reduceAdd,Nat.reduceBEq,Int.reduceBEq,Int.reduceBNe,Int.reduceLT,Int.reduceLE,effs,qda,ty,bx_1,e1,e3k,e4,e5,hE1]
     clear hE1;generalize hh1:Eff.of (g++[.box e.kids[i+1].cells]) E1=h1 at*;clear hh1
     obtain⟨E2,hE2,p2,o2,l2⟩:=qba qay (ih e.kids[i+1] hmk) (by simp[qad,refs,e.kids[i+1].norefs]) p1 (by(try simp only[wa,wb,wc]at hb);(try simp only[wa,wb,wc]at hq);(try simp only[wa,wb,wc]);omega)
     have bx_2:(Eff.of h1 E2)[g.length]? =some (.box e.kids[i+1].cells):=o2 _ _ (by omega) bx_1
     simp only[Z3,Nat.reduceAdd,Nat.reduceBEq,Int.reduceBEq,Int.reduceBNe,Int.reduceLT,Int.reduceLE,effs,qda,ty,bx_2,e1,e3k,e4,e5,hE2,qav (show i+1≤qac by omega)]
     clear hE2;generalize hh2:Eff.of h1 E2=h2 at*;clear hh2
     exact .inl ⟨i+1+1,_,rfl,⟨hlt,by rw[hsp];simpa only[wd,wg,wh]using p2⟩,by simp only[AtT,ats,wi],by(try simp only[]);omega,by first|rfl|trivial⟩
   ·have e1:¬((i:Int)<(e.kids.length)):=by omega
    simp only[Z3,Nat.reduceAdd,Nat.reduceBEq,Int.reduceBEq,Int.reduceBNe,Int.reduceLT,Int.reduceLE,effs,qda,ty,e1]
    have:(e.kids.map PExpr.words).take i=e.kids.map PExpr.words:=wj (by simp only[wm];omega)
    rw[this]at pi
    exact .inr ⟨_,_,rfl,by simp,rfl,⟨by simp only[AtT,ats],by simpa only[wd,wg,wh]using pi⟩⟩)
  obtain⟨j,H,d,pf,rfl⟩:=h2.elim
  clear hl0
  simp only[Z3,Nat.reduceAdd,Nat.reduceBEq,Int.reduceBEq,Int.reduceBNe,Int.reduceLT,Int.reduceLE,effs,qda]
  obtain⟨E11,hE11,p11,o11,l11⟩:=qba qay (show PrW 59 [.slice [[.str [41]]] .full] [[41]]from qcn [[41]] (by simp)).own rfl pf (by(try simp only[wa,wb,wc]at hb);(try simp only[wa,wb,wc]);omega)
  simp only[Z3,Nat.reduceAdd,Nat.reduceBEq,Int.reduceBEq,Int.reduceBNe,Int.reduceLT,Int.reduceLE,effs,qda,ty,hE11]
  clear hE11;generalize hh11:Eff.of H E11=h11 at*;clear hh11
  exact qdb c (fun _=>by simp) (.inr rfl) rfl htt (fun e=>by have:=hnn e;simp only[wa]at this;omega) (by simpa only[wd,wg,wh]using p11)
 ·have e0:decide ((0:Int)<(e.cons.length:Int))=true:=decide_eq_true (by omega)
  have hbr:brW e.cons=[[91]]++qer e.cons [44]++[[93]]:=if_neg hz
  rw[hbr]at hb ⊢
  simp only[Z3,Nat.reduceAdd,Nat.reduceBEq,Int.reduceBEq,Int.reduceBNe,Int.reduceLT,Int.reduceLE,effs,qda,ty,b_1,e0,qf2]
  obtain⟨E2,hE2,p2,o2,l2⟩:=qba qay (show PrW 59 [.slice [[.str [91]]] .full] [[91]]from qcn [[91]] (by simp)).own rfl p1 (by(try simp only[wa,wb,wc]at hb);(try simp only[wa,wb,wc]);omega)
  have b_2:(Eff.of h1 E2)[h.length]? =some (.box e.cells):=o2 _ _ (by omega) b_1
  simp only[Z3,Nat.reduceAdd,Nat.reduceBEq,Int.reduceBEq,Int.reduceBNe,Int.reduceLT,Int.reduceLE,effs,qda,ty,b_2,e0,qf2,hE2]
  clear hE2;generalize hh2:Eff.of h1 E2=h2 at*;clear hh2
  obtain⟨E3,hE3,p3,o3,l3⟩:=qba qay klist rfl p2 (by(try simp only[wa,wb,wc]at hb);(try simp only[wa,wb,wc]);omega)
  have b_3:(Eff.of h2 E3)[h.length]? =some (.box e.cells):=o3 _ _ (by omega) b_2
  simp only[Z3,Nat.reduceAdd,Nat.reduceBEq,Int.reduceBEq,Int.reduceBNe,Int.reduceLT,Int.reduceLE,effs,qda,ty,b_3,e0,qf2,hE3]
  clear hE3;generalize hh3:Eff.of h2 E3=h3 at*;clear hh3
  obtain⟨E4,hE4,p4,o4,l4⟩:=qba qay (show PrW 59 [.slice [[.str [93]]] .full] [[93]]from qcn [[93]] (by simp)).own rfl p3 (by(try simp only[wa,wb,wc]at hb);(try simp only[wa,wb,wc]);omega)
  have b_4:(Eff.of h3 E4)[h.length]? =some (.box e.cells):=o4 _ _ (by omega) b_3
  simp only[Z3,Nat.reduceAdd,Nat.reduceBEq,Int.reduceBEq,Int.reduceBNe,Int.reduceLT,Int.reduceLE,effs,qda,ty,b_4,e0,qf2,hE4]
  clear hE4;generalize hh4:Eff.of h3 E4=h4 at*;clear hh4
  obtain⟨E5,hE5,p5,o5,l5⟩:=qba qay (show PrW 59 [.slice [[.str [40]]] .full] [[40]]from qcn [[40]] (by simp)).own rfl p4 (by(try simp only[wa,wb,wc]at hb);(try simp only[wa,wb,wc]);omega)
  have b_5:(Eff.of h4 E5)[h.length]? =some (.box e.cells):=o5 _ _ (by omega) b_4
  simp only[Z3,Nat.reduceAdd,Nat.reduceBEq,Int.reduceBEq,Int.reduceBNe,Int.reduceLT,Int.reduceLE,effs,qda,ty,b_5,e0,qf2,hE5]
  clear hE5;generalize hh5:Eff.of h4 E5=h5 at*;clear hh5
  generalize hbl:qam PP cmp0 C lpC _=f;generalize hl0:lpC f _=r
  obtain⟨ex,s',rfl,rfl,h2⟩:=qd0 (α:=Nat) hl0 [4,5,32,33,34,35,36,37,38,39,40,41,42,43,44] (fun i=>[(31,.int .i64 i)]) (fun i g=>i≤e.kids.length∧PrAt 9 g 0 (ws++[e.name]++[[91]]++qer e.cons [44]++[[93]]++[[40]]++sepW [44] ((e.kids.map PExpr.words).take i)) (some tt)) (fun i=>e.kids.length-i) (fun _=>()) (fun ts _ ex s=>ex= .exit 0∧OutT [4,5,31,32,33,34,35,36,37,38,39,40,41,42,43,44] ts [] (fun g=>PrAt 9 g 0 (ws++[e.name]++[[91]]++qer e.cons [44]++[[93]]++[[40]]++sepW [44] (e.kids.map PExpr.words)) (some tt)) s) 0 ⟨wo _,by simpa[sepW]using p5⟩ (by simp only[AtT,ats,wi]) (by
   rintro i j g d ⟨hi,pi⟩
   clear hl0;subst hbl
   have hg0:0<g.length:=(we.1 pi.1).1
   by_cases hlt:i<e.kids.length
   ·have e1:((i:Int)<(e.kids.length)):=by omega
    have e3k:=qij e.kids i hlt
    have hmk:=wk hlt
    have hq:=qq2 [44] (e.kids.map PExpr.words) (i+1)
    have hsp:=qn9 [44] (e.kids.map PExpr.words) i e.kids[i].words (by simp[hlt])
    rw[hsp]at hq
    rcases i with _|i
    ·skip
     rw[if_pos rfl]at hsp hq
     have e4:decide ((0:Int)<((0:Nat):Int))=false:=rfl
     have e5:decide ((0:Int)<0)=false:=rfl
     have pi0:PrAt 9 g 0 (ws++[e.name]++[[91]]++qer e.cons [44]++[[93]]++[[40]]) (some tt):=by simpa[sepW]using pi
     have bx_0:(g++[Blk.box e.kids[0].cells])[g.length]? =some (.box e.kids[0].cells):=qcj _ _
     simp only[Z3,Nat.reduceAdd,Nat.reduceBEq,Int.reduceBEq,Int.reduceBNe,Int.reduceLT,Int.reduceLE,effs,qda,ty,bx_0,e1,e3k,e4,e5]
     obtain⟨E1,hE1,p1,o1,l1⟩:=qba qay (ih e.kids[0] hmk) (by simp[qad,refs,e.kids[0].norefs]) (pi0.app [.box e.kids[0].cells]) (by(try simp only[wa,wb,wc]at hb);(try simp only[wa,wb,wc]at hq);(try simp only[wa,wb,wc]);omega)
     have bx_1:(Eff.of (g++[.box e.kids[0].cells]) E1)[g.length]? =some (.box e.kids[0].cells):=o1 _ _ (by omega) bx_0
     simp only[Z3,Nat.reduceAdd,Nat.reduceBEq,Int.reduceBEq,Int.reduceBNe,Int.reduceLT,Int.reduceLE,effs,qda,ty,bx_1,e1,e3k,e4,e5,hE1,qav (show 0≤qac by omega)]
     clear hE1;generalize hh1:Eff.of (g++[.box e.kids[0].cells]) E1=h1 at*;clear hh1
     exact .inl ⟨0+1,_,rfl,⟨hlt,by rw[hsp];simpa only[wd,wg,wh]using p1⟩,by simp only[AtT,ats,wi],by(try simp only[]);omega,by first|rfl|trivial⟩
    ·skip
     rw[if_neg (by omega)]at hsp hq
     have e4:decide ((0:Int)<((i+1:Nat):Int))=true:=decide_eq_true (by omega)
     have e5:=e4
     have bx_0:(g++[Blk.box e.kids[i+1].cells])[g.length]? =some (.box e.kids[i+1].cells):=qcj _ _
     simp only[Z3,Nat.reduceAdd,Nat.reduceBEq,Int.reduceBEq,Int.reduceBNe,Int.reduceLT,Int.reduceLE,effs,qda,ty,bx_0,e1,e3k,e4,e5]
     obtain⟨E1,hE1,p1,o1,l1⟩:=qba qay (show PrW 59 [.slice [[.str [44]]] .full] [[44]]from qcn [[44]] (by simp)).own rfl (pi.app [.box e.kids[i+1].cells]) (by(try simp only[wa,wb,wc]at hb);(try simp only[wa,wb,wc]at hq);(try simp only[wa,wb,wc]);omega)
     have bx_1:(Eff.of (g++[.box e.kids[i+1].cells]) E1)[g.length]? =some (.box e.kids[i+1].cells):=o1 _ _ (by omega) bx_0
     simp only[Z3,Nat.reduceAdd,Nat.reduceBEq,Int.reduceBEq,Int.reduceBNe,Int.reduceLT,Int.reduceLE,effs,qda,ty,bx_1,e1,e3k,e4,e5,hE1]
     clear hE1;generalize hh1:Eff.of (g++[.box e.kids[i+1].cells]) E1=h1 at*;clear hh1
     obtain⟨E2,hE2,p2,o2,l2⟩:=qba qay (ih e.kids[i+1] hmk) (by simp[qad,refs,e.kids[i+1].norefs]) p1 (by(try simp only[wa,wb,wc]at hb);(try simp only[wa,wb,wc]at hq);(try simp only[wa,wb,wc]);omega)
     have bx_2:(Eff.of h1 E2)[g.length]? =some (.box e.kids[i+1].cells):=o2 _ _ (by omega) bx_1
     simp only[Z3,Nat.reduceAdd,Nat.reduceBEq,Int.reduceBEq,Int.reduceBNe,Int.reduceLT,Int.reduceLE,effs,qda,ty,bx_2,e1,e3k,e4,e5,hE2,qav (show i+1≤qac by omega)]
     clear hE2;generalize hh2:Eff.of h1 E2=h2 at*;clear hh2
     exact .inl ⟨i+1+1,_,rfl,⟨hlt,by rw[hsp];simpa only[wd,wg,wh]using p2⟩,by simp only[AtT,ats,wi],by(try simp only[]);omega,by first|rfl|trivial⟩
   ·have e1:¬((i:Int)<(e.kids.length)):=by omega
    simp only[Z3,Nat.reduceAdd,Nat.reduceBEq,Int.reduceBEq,Int.reduceBNe,Int.reduceLT,Int.reduceLE,effs,qda,ty,e1]
    have:(e.kids.map PExpr.words).take i=e.kids.map PExpr.words:=wj (by simp only[wm];omega)
    rw[this]at pi
    exact .inr ⟨_,_,rfl,by simp,rfl,⟨by simp only[AtT,ats],by simpa only[wd,wg,wh]using pi⟩⟩)
  obtain⟨j,H,d,pf,rfl⟩:=h2.elim
  clear hl0
  simp only[Z3,Nat.reduceAdd,Nat.reduceBEq,Int.reduceBEq,Int.reduceBNe,Int.reduceLT,Int.reduceLE,effs,qda]
  obtain⟨E11,hE11,p11,o11,l11⟩:=qba qay (show PrW 59 [.slice [[.str [41]]] .full] [[41]]from qcn [[41]] (by simp)).own rfl pf (by(try simp only[wa,wb,wc]at hb);(try simp only[wa,wb,wc]);omega)
  simp only[Z3,Nat.reduceAdd,Nat.reduceBEq,Int.reduceBEq,Int.reduceBNe,Int.reduceLT,Int.reduceLE,effs,qda,ty,hE11]
  clear hE11;generalize hh11:Eff.of H E11=h11 at*;clear hh11
  exact qdb c (fun _=>by simp) (.inr rfl) rfl htt (fun e=>by have:=hnn e;simp only[wa]at this;omega) (by simpa only[wd,wg,wh]using p11)
end Go.Ab
