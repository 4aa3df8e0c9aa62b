/- What an operator binds: the law. -/
import Derived.Test.YtngklkmeknmloaaGreatDoorAbTypes
import Derived.Test.YtngklkmeknmloaaGreatDoorAbOkB
import Derived.Test.YtngklkmeknmloaaGreatDoorAbTxt
import Derived.Test.YtngklkmeknmloaaGreatDoorAbBack3
import Derived.Test.YtngklkmeknmloaaGreatDoorAbSameR
import Derived.Test.YtngklkmeknmloaaGreatDoorAbPsQv
import Derived.Test.YtngklkmeknmloaaGreatDoorAbPrs
import Derived.Test.YtngklkmeknmloaaGreatDoorAbObj
import Derived.Test.YtngklkmeknmloaaGreatDoorAbSize
import Derived.Test.YtngklkmeknmloaaGreatDoorAbRref
set_option linter.unusedSimpArgs false
set_option linter.unusedVariables false
set_option maxRecDepth 100000
set_option maxHeartbeats 4000000
open Go.Proofs
open List renaming length_append→wa,length_cons→wb,length_nil→wc
open Bool renaming eq_false_or_eq_true→wd
open Nat renaming zero_le→we,le_refl→wg
open Int renaming emod_nonneg→wh
namespace Go.Ab
theorem qio {α:Type} (p:α→α→Bool) (h:∀a b,p a b=true↔a=b):∀l m,qjm p l m=true↔l=m
 |[],[]=>by simp[qjm]
 |[],_::_=>by simp[qjm]
 |_::_,[]=>by simp[qjm]
 |a::r,b::t=>by simp[qjm,h a b,qio p h r t]
theorem PEq.same_iff (a b:PEq):a.same b=true↔a=b:=by
 cases a;cases b;simp[PEq.same,Go.Ab.same_iff]
theorem PWay.same_iff (a b:PWay):a.same b=true↔a=b:=by
 cases a;cases b;simp[PWay.same,Go.Ab.same_iff,and_comm]
theorem PState.same_iff (a b:PState):a.same b=true↔a=b:=by
 cases a;cases b;simp[PState.same,qio _ PEq.same_iff,qio _ PWay.same_iff,and_assoc]
theorem PItem.same_iff (a b:PItem):a.same b=true↔a=b:=by
 cases a;cases b;simp[PItem.same,PEq.same_iff,qio _ PState.same_iff]
theorem PNode.same_iff (a b:PNode):a.same b=true↔a=b:=by
 cases a;cases b;simp[PNode.same,qio _ PItem.same_iff,and_assoc]
theorem PEnum.same_iff (a b:PEnum):a.same b=true↔a=b:=by
 cases a;cases b;simp[PEnum.same]
theorem PProg.same_iff (a b:PProg):a.same b=true↔a=b:=by
 cases a;cases b;simp[PProg.same,qio _ PEnum.same_iff,qio _ PNode.same_iff]
end Go.Ab
namespace Go.Ab
open Go Go.Ab.Tab
theorem J_ge:∀ws:List Str,(∀w∈ws,w≠[])→ws.length≤(J ws).length
 |[],_=>wg _
 |[w],h=>by
  have hw:=h w (by simp)
  rw[J_one]
  cases w with
  |nil=>exact absurd rfl hw
  |cons c t=>simp
 |w::v::r,h=>by
  have:=J_ge (v::r) (fun x hx=>h x (by simp[hx]))
  rw[qjd w _ (by simp)]
  simp only[wa,wb]at this ⊢
  omega
end Go.Ab
namespace Go.Ab
open Go Go.Ab.Tab
theorem two_c (s:Str) (a b:PExpr):Ret C 26 [.str s,.agg a.cells,.agg b.cells] (.agg (twoE s a b).cells):=by
 refine Ret.mk (by simp only[qad,refs,a.norefs,b.norefs];rfl) (by simp only[refs];exact(twoE s a b).norefs) ?_
 have sp:∀(e:PExpr) (x0 x1 x2 x3 x4:AVal),qau [x0,x1,x2,x3,x4] 0 e.cells=some e.cells:=fun e _ _ _ _ _=>qci (by rw[e.len];rfl)
 unfold twoE
 cases h1:(s==[45,62])
 ·cases h2:(s==[102,98,121])
  ·rw[C_fn rfl Tryz.func26 rfl (by kernel_rfl) (m:=21) rfl];simp only[Z3,simprocAttr,Tryz.f26,fx_26,effs,qe4,quc,h1,h2,a.ones,a.len,a.take,b.ones,b.len,b.take]
   exact qdo (fun x _=>we _) rfl rfl
  ·rw[C_fn rfl Tryz.func26 rfl (by kernel_rfl) (m:=21) rfl];simp only[Z3,simprocAttr,Tryz.f26,fx_26,effs,qe4,quc,h1,h2,a.ones,a.len,a.take,b.ones,b.len,b.take]
   exact qdo (fun x _=>we _) rfl rfl
 ·cases h2:(s==[102,98,121])
  ·rw[C_fn rfl Tryz.func26 rfl (by kernel_rfl) (m:=21) rfl];simp only[Z3,simprocAttr,Tryz.f26,fx_26,effs,qe4,quc,h1,h2,a.ones,a.len,a.take,b.ones,b.len,b.take]
   exact qdo (fun x _=>we _) rfl rfl
  ·rw[C_fn rfl Tryz.func26 rfl (by kernel_rfl) (m:=21) rfl];simp only[Z3,simprocAttr,Tryz.f26,fx_26,effs,qe4,quc,h1,h2,a.ones,a.len,a.take,b.ones,b.len,b.take]
   exact qdo (fun x _=>we _) rfl rfl
theorem mod7 (n:Int):∃i:Nat,i<7∧qbj .i64 ((qbj .u64 n).tmod 7)=(i:Int):=by
 have h0:0≤qbj .u64 n:=by
  show 0≤IntKind.wrap .u64 n
  unfold IntKind.wrap
  simp only[IntKind.signed,Bool.false_and]
  exact wh _ (by decide)
 have h1:(qbj .u64 n).tmod 7=(qbj .u64 n) % 7:=Int.tmod_eq_emod_of_nonneg h0
 have h2:=wh (qbj .u64 n) (show(7:Int)≠0 by decide)
 have h3:=Int.emod_lt_of_pos (qbj .u64 n) (show(0:Int)<7 by decide)
 refine⟨((qbj .u64 n) % 7).toNat,by omega,?_⟩
 rw[h1]
 generalize(qbj .u64 n) % 7=z at*
 unfold qbj
 simp only
 rw[if_pos (by simp;omega)]
 omega
theorem ops_get:∀i,i<7→(opsL.map fun s=>[AVal.str s])[i]? =some [.str (opN i)]:=by
 intro i h
 rw[List.getElem?_map]
 have:∀i,i<7→opsL[i]? =some (opN i):=by decide
 rw[this i h];rfl
theorem qs5 {len e s b o:Nat} {k:IntKind} {n:Int} (hs:qao PP e=some s) (h:(decide (0≤n) && decide (n<len))=true):qfg PP (some (.array len e)) (.ptr b o) (.int k n)=some (.val (.ptr b (o+n.toNat*s)) .same):=by
 simp only[qfg,hs];rw[if_pos h]
theorem ia_n0 (b o:Nat):qfg PP (some (.array 2 3)) (.ptr b o) (.int .i64 0)=some (.val (.ptr b o) .same):=qs5 (s:=1) (by kernel_rfl) rfl
theorem ia_n1 (b o:Nat):qfg PP (some (.array 2 3)) (.ptr b o) (.int .i64 1)=some (.val (.ptr b (o+1)) .same):=qs5 (s:=1) (by kernel_rfl) rfl
theorem ia_e0 (b o:Nat):qfg PP (some (.array 3 37)) (.ptr b o) (.int .i64 0)=some (.val (.ptr b o) .same):=qs5 (s:=5) (by kernel_rfl) rfl
theorem ia_e1 (b o:Nat):qfg PP (some (.array 3 37)) (.ptr b o) (.int .i64 1)=some (.val (.ptr b (o+5)) .same):=qs5 (s:=5) (by kernel_rfl) rfl
theorem ia_e2 (b o:Nat):qfg PP (some (.array 3 37)) (.ptr b o) (.int .i64 2)=some (.val (.ptr b (o+10)) .same):=qs5 (s:=5) (by kernel_rfl) rfl
abbrev ia:=Ji ia_n0 (Ji ia_n1 (Ji ia_e0 (Ji ia_e1 ia_e2)))
def qf0 (a b c:PExpr) (i k:Nat):List Str:=a.words++opN i::(b.words++opN k::c.words)
theorem bindW_J (a b c:PExpr) (i k:Nat):J (qf0 a b c i k)=((((((((J a.words++[32])++opN i)++[32])++J b.words)++[32])++opN k)++[32])++J c.words):=by
 unfold qf0
 rw[J_app _ _ (qne a) (by simp),qjd _ _ (by simp[qne b]),J_app _ _ (qne b) (by simp),qjd _ _ (qne c)]
 simp
theorem qj7:∀i,i<7→(opN i).length≤3:=by decide
theorem opN_ok:∀i,i<7→WOk (opN i):=by
 intro i h
 have:opN i∈signL∨opN i∈wordL:=by
  have:∀i,i<7→(signL.any (opN i== ·)||wordL.any (opN i== ·))=true:=by decide
  have:=this i h
  simp only[Bool.or_eq_true,List.any_eq_true,beq_iff_eq]at this
  rcases this with⟨x,hx,e⟩|⟨x,hx,e⟩
  ·exact .inl (e▸hx)
  ·exact .inr (e▸hx)
 rcases this with h|h
 ·exact .sign h
 ·exact .word h
theorem kid_of {e:PExpr} (h:qar false e=true) (hr:e.Rng) (hd:e.depth≤30) (hb:e.bulk≤1048576):Kid 0 e∧Oks e.words:=by
 have g:=good_of e h
 obtain⟨b,f⟩:=q1m g hr
 have hn:=q16 e (by have:=nd_bulk e;unfold qac;omega)
 exact⟨fun r hs=>b.unary f (by omega) (by omega) hs,q18 g hr⟩
theorem q5h {a b c:PExpr} {i k:Nat} (hi:i<7) (hk:k<7) (ha:Kid 0 a∧Oks a.words) (hb:Kid 0 b∧Oks b.words) (hc:Kid 0 c∧Oks c.words) (hT:(J (qf0 a b c i k)).length≤65536):
 ∃l,qb8 (J (qf0 a b c i k)) ((J (qf0 a b c i k)).length+1) 0=(some l,0)∧TsOk l∧∃N ts',qdt ts'=(if i=4∧k=4 then 4 else 6)∧
  pE N 0 1 l= .ok (if i=4∧k=4 then twoE (opN i) a b else if i<k∨i=k∧i<2 then twoE (opN i) a (twoE (opN k) b c)else twoE (opN k) (twoE (opN i) a b) c) ts':=by
 have hne:qf0 a b c i k≠[]:=by unfold qf0;simp
 have hok:Oks (qf0 a b c i k):=qb3 ha.2 (qef (opN_ok i hi) (qb3 hb.2 (qef (opN_ok k hk) hc.2)))
 have hge:=J_ge (qf0 a b c i k) (fun w hw=>(qmy (hok w hw)).1)
 obtain⟨l,e,h1,h2,h3⟩:=qra (qf0 a b c i k) [] ((J (qf0 a b c i k)).length+1) hne hok (by omega)
 have hl:l.length=(qf0 a b c i k).length:=by
  have:=congrArg List.length h2
  simpa[toks]using this
 have h6:e.sort=6:=by have:=congrArg PTok.sort h3;exact this
 refine⟨l++[e],h1,⟨⟨l,e,rfl,h6⟩,by simp only[wa,wb,wc];omega⟩,?_⟩
 have he:qkv [tEnd]:=⟨⟨⟨rfl,rfl⟩,rfl,rfl⟩,rfl⟩
 obtain⟨N,hN⟩:=q49 hi hk ha.1 hb.1 hc.1 he
 have hp:=hN N N (wg _) (wg _)
 have hm:(l++[e]).map strip=toks a.words++tokW (opN i)::(toks b.words++tokW (opN k)::(toks c.words++[tEnd])):=by
  rw[List.map_append,h2];simp only[List.map_cons,List.map_nil,h3,qf0,q1h,toks_cons,List.append_assoc,List.cons_append];rfl
 rw[←hm]at hp
 by_cases h44:i=4∧k=4
 ·rw[if_pos h44]at hp
  obtain⟨ts',h4,h5⟩:=(pE_v N 0 1).back hp
  refine⟨N,ts',?_,by rw[if_pos h44];exact h4⟩
  rw[if_pos h44,←qh5,h5]
  obtain⟨rfl,rfl⟩:=h44
  rfl
 ·rw[if_neg h44]at hp ⊢
  have hp2:pE N 0 1 ((l++[e]).map strip)= .ok (if i<k∨i=k∧i<2 then twoE (opN i) a (twoE (opN k) b c)else twoE (opN k) (twoE (opN i) a b) c) [tEnd]:=by
   exact Eq.trans hp (by split<;>rfl)
  obtain⟨ts',h4,h5⟩:=(pE_v N 0 1).back hp2
  refine⟨N,ts',?_,by rw[if_neg h44];exact h4⟩
  rw[←qh5,h5];rfl
end Go.Ab
namespace Go.Ab
open Go Go.Ab.Tab
theorem cv1 (n:Int):ql7 PP 3 42 (.int .i64 n)=some (.int .u64 (qbj .u64 n)):=by simp only[ql7,un_3,un_42]
theorem cv2 (n:Int):ql7 PP 42 3 (.int .u64 n)=some (.int .i64 (qbj .i64 n)):=by simp only[ql7,un_3,un_42]
theorem bin_rem7 (t:TypeId) (n:Bool) (a:Int):binA PP cmp0 .rem t n (.int .u64 a) (.int .u64 7)=some (.int .u64 (a.tmod 7)):=rfl
theorem qol {s:Str} {a b:PExpr} (h:s.length≤3) (ha:a.Small) (hb:b.Small):(twoE s a b).Small:=by
 have key:∀(op:Int) (x:Str),x.length≤3→(PExpr.mk op x 0 [] [a,b]).Small:=fun op x hx=> .mk _ _ _ _ _ (by unfold qac;omega) ⟨by simp,fun y hy=>by cases hy⟩ (by simp[qac]) (fun k hk=>by
  rcases List.mem_cons.1 hk with rfl|hk
  ·exact ha
  ·rw[List.mem_singleton.1 hk];exact hb)
 unfold twoE
 split
 ·exact key _ _ (by simp)
 split
 ·exact key _ _ (by simp)
 ·exact key _ _ h
theorem pbinds_c (a b c:PExpr) (n m:Int) (sa:a.Small) (sb:b.Small) (sc:c.Small) (ra:a.Rng) (rb:b.Rng) (rc:c.Rng) (hb:a.bulk+b.bulk+c.bulk≤1048576):
 D 6 [.agg (a.cells++(b.cells++c.cells)),.agg [.int .i64 n,.int .i64 m]] []=some (.ret (.bool true) .same):=by
 obtain⟨i,hi,ei⟩:=mod7 n
 obtain⟨k,hk,ek⟩:=mod7 m
 have a1:=(qyh false a sa).up;have a2:=(qpo a sa).up;have a3:=(qw6 a sa).up
 have b1:=(qyh false b sb).up;have b2:=(qpo b sb).up;have b3:=(qw6 b sb).up
 have c1:=(qyh false c sc).up;have c2:=(qpo c sc).up;have c3:=(qw6 c sc).up
 have t0:List.take 5 (a.cells++(b.cells++c.cells))=a.cells:=a.takeA _
 have t1:List.take 5 (List.drop 5 (a.cells++(b.cells++c.cells)))=b.cells:=by rw[a.dropA];exact b.takeA _
 have t2:List.take 5 (List.drop 10 (a.cells++(b.cells++c.cells)))=c.cells:=by
  rw[show(10:Nat)=5+5 from rfl,←List.drop_drop,a.dropA,b.dropA];exact c.take
 have w1:qbj .i64 1=1:=rfl
 have w2:qbj .i64 2=2:=rfl
 have w3:qbj .i64 3=3:=rfl
 rw[D_fn rfl Tryz.func6 rfl (by kernel_rfl) (m:=145) rfl];simp only[Z3,simprocAttr,Tryz.f6,fx_6,effs,ia,cv1,cv2,bin_rem7,qok _,ei,ek]
 cases ea:qar false a
 ·rw[qb4]
  simp only[Z3,simprocAttr,effs,ia,t0,t1,t2,a.len,b.len,c.len,a1 _,a2 _,a3 _,b1 _,b2 _,b3 _,c1 _,c2 _,c3 _,w1,w2,w3,fx_6,ea]
 rcases wd (decide (30<a.depth))with da|da
 ·rw[qb4]
  simp only[Z3,simprocAttr,effs,ia,t0,t1,t2,a.len,b.len,c.len,a1 _,a2 _,a3 _,b1 _,b2 _,b3 _,c1 _,c2 _,c3 _,w1,w2,w3,fx_6,ea,da]
 rcases wd (decide (200<a.size))with za|za
 ·rw[qb4]
  simp only[Z3,simprocAttr,effs,ia,t0,t1,t2,a.len,b.len,c.len,a1 _,a2 _,a3 _,b1 _,b2 _,b3 _,c1 _,c2 _,c3 _,w1,w2,w3,fx_6,ea,da,za]
 rw[qb4]
 simp only[Z3,simprocAttr,effs,ia,t0,t1,t2,a.len,b.len,c.len,a1 _,a2 _,a3 _,b1 _,b2 _,b3 _,c1 _,c2 _,c3 _,w1,w2,w3,fx_6,ea,da,za]
 cases eb:qar false b
 ·rw[qb4]
  simp only[Z3,simprocAttr,effs,ia,t0,t1,t2,a.len,b.len,c.len,a1 _,a2 _,a3 _,b1 _,b2 _,b3 _,c1 _,c2 _,c3 _,w1,w2,w3,fx_6,eb]
 rcases wd (decide (30<b.depth))with db|db
 ·rw[qb4]
  simp only[Z3,simprocAttr,effs,ia,t0,t1,t2,a.len,b.len,c.len,a1 _,a2 _,a3 _,b1 _,b2 _,b3 _,c1 _,c2 _,c3 _,w1,w2,w3,fx_6,eb,db]
 rcases wd (decide (200<b.size))with zb|zb
 ·rw[qb4]
  simp only[Z3,simprocAttr,effs,ia,t0,t1,t2,a.len,b.len,c.len,a1 _,a2 _,a3 _,b1 _,b2 _,b3 _,c1 _,c2 _,c3 _,w1,w2,w3,fx_6,eb,db,zb]
 rw[qb4]
 simp only[Z3,simprocAttr,effs,ia,t0,t1,t2,a.len,b.len,c.len,a1 _,a2 _,a3 _,b1 _,b2 _,b3 _,c1 _,c2 _,c3 _,w1,w2,w3,fx_6,eb,db,zb]
 cases ec:qar false c
 ·rw[qb4]
  simp only[Z3,simprocAttr,effs,ia,t0,t1,t2,a.len,b.len,c.len,a1 _,a2 _,a3 _,b1 _,b2 _,b3 _,c1 _,c2 _,c3 _,w1,w2,w3,fx_6,ec]
 rcases wd (decide (30<c.depth))with dc|dc
 ·rw[qb4]
  simp only[Z3,simprocAttr,effs,ia,t0,t1,t2,a.len,b.len,c.len,a1 _,a2 _,a3 _,b1 _,b2 _,b3 _,c1 _,c2 _,c3 _,w1,w2,w3,fx_6,ec,dc]
 rcases wd (decide (200<c.size))with zc|zc
 ·rw[qb4]
  simp only[Z3,simprocAttr,effs,ia,t0,t1,t2,a.len,b.len,c.len,a1 _,a2 _,a3 _,b1 _,b2 _,b3 _,c1 _,c2 _,c3 _,w1,w2,w3,fx_6,ec,dc,zc]
 rw[qb4]
 simp only[Z3,simprocAttr,effs,ia,t0,t1,t2,a.len,b.len,c.len,a1 _,a2 _,a3 _,b1 _,b2 _,b3 _,c1 _,c2 _,c3 _,w1,w2,w3,fx_6,ec,dc,zc]
 simp only[decide_eq_false_iff_not,Int.not_lt]at da db dc
 have Ka:=kid_of ea ra da (by omega)
 have Kb:=kid_of eb rb db (by omega)
 have Kc:=kid_of ec rc dc (by omega)
 have la:=J_len a.words;have lb:=J_len b.words;have lc:=J_len c.words
 have la':=qpv a;have lb':=qpv b;have lc':=qpv c
 have li:=qj7 i hi;have lk:=qj7 k hk
 have sa':=(qst a sa ra (by omega)).up;have sb':=(qst b sb rb (by omega)).up;have sc':=(qst c sc rc (by omega)).up
 have gi:([[AVal.str [45,62]],[AVal.str [102,98,121]],[AVal.str [111,114]],[AVal.str [97,110,100]],[AVal.str [60]],[AVal.str [43]],[AVal.str [42]]]:List (List AVal))[i]? =some [.str (opN i)]:=ops_get i hi
 have gk:([[AVal.str [45,62]],[AVal.str [102,98,121]],[AVal.str [111,114]],[AVal.str [97,110,100]],[AVal.str [60]],[AVal.str [43]],[AVal.str [42]]]:List (List AVal))[k]? =some [.str (opN k)]:=ops_get k hk
 have cat:∀(x y z:Str),x++y=z→x.length+y.length≤100000000→∀t n,binA PP cmp0 .add t n (.str x) (.str y)=some (.str z):=fun x y z e h t n=>e▸qxs PP cmp0 t n x y (by unfold qlr;omega)
 have k1:=cat (J a.words) [32] _ rfl (by simp only[wb,wc];omega)
 have k2:=cat (J a.words++[32]) (opN i) (J a.words++32::opN i) (by simp) (by simp only[wa,wb,wc];omega)
 have k3:=cat (J a.words++32::opN i) [32] (J a.words++32::(opN i++[32])) (by simp) (by simp only[wa,wb,wc];omega)
 have k4:=cat (J a.words++32::(opN i++[32])) (J b.words) (J a.words++32::(opN i++32::J b.words)) (by simp) (by simp only[wa,wb,wc];omega)
 have k5:=cat (J a.words++32::(opN i++32::J b.words)) [32] (J a.words++32::(opN i++32::(J b.words++[32]))) (by simp) (by simp only[wa,wb,wc];omega)
 have k6:=cat (J a.words++32::(opN i++32::(J b.words++[32]))) (opN k) (J a.words++32::(opN i++32::(J b.words++32::opN k))) (by simp) (by simp only[wa,wb,wc];omega)
 have k7:=cat (J a.words++32::(opN i++32::(J b.words++32::opN k))) [32] (J a.words++32::(opN i++32::(J b.words++32::(opN k++[32])))) (by simp) (by simp only[wa,wb,wc];omega)
 have k8:=cat (J a.words++32::(opN i++32::(J b.words++32::(opN k++[32])))) (J c.words) (J (qf0 a b c i k)) (by rw[bindW_J];simp) (by simp only[wa,wb,wc];omega)
 have ln:(J (qf0 a b c i k)).length≤100000000:=by rw[bindW_J];simp only[wa,wb,wc];omega
 have hJle:(J (qf0 a b c i k)).length≤qac:=by unfold qac;omega
 rw[qb4]
 by_cases hbig:65536<(J (qf0 a b c i k)).length
 ·have hd:decide ((65536:Int)<((J (qf0 a b c i k)).length:Int))=true:=decide_eq_true (by omega)
  simp only[Z3,simprocAttr,effs,ia,t0,t1,t2,a.len,b.len,c.len,fx_6,sa' _,sb' _,sc' _,gi,gk,k1,k2,k3,k4,k5,k6,k7,k8,hJle,hd]
 have hd:decide ((65536:Int)<((J (qf0 a b c i k)).length:Int))=false:=decide_eq_false (by omega)
 obtain⟨l,h1,h2,N,ts',h6,hp⟩:=q5h hi hk Ka Kb Kc (by omega)
 by_cases h44:i=4∧k=4
 ·rw[if_pos h44]at h6
  have g:=qu0 (que N) h2 hp (by rw[h6];decide)
  obtain⟨x,y,hf⟩:=qs4 3 ts'
  rw[qs3,hf]at g
  have p:=qoi _ (qyg (ts':=l) _ (by omega) (by decide) h1 g)
  unfold qk0 fC at p
  obtain⟨rfl,rfl⟩:=h44
  have n4:(((4:Nat):Int)==4)=true:=rfl
  simp only[Z3,simprocAttr,effs,ia,t0,t1,t2,a.len,b.len,c.len,fx_6,sa' _,sb' _,sc' _,gi,gk,k1,k2,k3,k4,k5,k6,k7,k8,hJle,hd,p _,n4]
 rw[if_neg h44]at h6 hp
 have p:=qrb _ (by omega) h1 h2 hp h6
 unfold qgl at p
 have u1:=(two_c (opN i) a b).up
 have u2:=(two_c (opN k) (twoE (opN i) a b) c).up
 have u3:=(two_c (opN k) b c).up
 have u4:=(two_c (opN i) a (twoE (opN k) b c)).up
 have sp:∀(e:PExpr) (x0 x1 x2 x3 x4:AVal),qau [x0,x1,x2,x3,x4] 0 e.cells=some e.cells:=fun e _ _ _ _ _=>qci (by rw[e.len];rfl)
 have ya:(twoE (opN i) a b).Small:=qol (qj7 i hi) sa sb
 have yb:(twoE (opN k) b c).Small:=qol (qj7 k hk) sb sc
 have two4:∀X,((((i:Nat):Int)==4)=false→X)→((((i:Nat):Int)==4)=true→(((k:Nat):Int)==4)=false→X)→X:=fun X f g=>by
  cases h:(((i:Nat):Int)==4)
  ·exact f h
  ·refine g h ?_
   simp only[beq_iff_eq]at h
   have:¬k=4:=fun e=>h44 ⟨by omega,e⟩
   simp;omega
 have y1:=(twoE (opN i) a (twoE (opN k) b c)).ones;have y2:=(twoE (opN i) a (twoE (opN k) b c)).len;have y3:=(twoE (opN i) a (twoE (opN k) b c)).take
 have y4:=(twoE (opN k) (twoE (opN i) a b) c).ones;have y5:=(twoE (opN k) (twoE (opN i) a b) c).len;have y6:=(twoE (opN k) (twoE (opN i) a b) c).take
 by_cases hr:i<k∨i=k∧i<2
 ·rw[if_pos hr]at p
  have sE:(twoE (opN i) a (twoE (opN k) b c)).Small:=qol (by first|exact qj7 i hi|exact qj7 k hk) (by assumption) (by assumption)
  have q:=(qoo (twoE (opN i) a (twoE (opN k) b c)) (twoE (opN i) a (twoE (opN k) b c)) sE sE).up
  rw[(same_iff (twoE (opN i) a (twoE (opN k) b c)) (twoE (opN i) a (twoE (opN k) b c))).2 rfl]at q
  have zs:=(twoE (opN i) a (twoE (opN k) b c)).strip
  refine two4 _ (fun x1=> ?_) (fun x1 x2=> ?_)
  ·simp only[Z3,simprocAttr,effs,ia,t0,t1,t2,a.len,b.len,c.len,fx_6,sa' _,sb' _,sc' _,gi,gk,k1,k2,k3,k4,k5,k6,k7,k8,hJle,hd,p _,x1,sp _,u1 _,u2 _,u3 _,u4 _,y1,y2,y3,y4,y5,y6]
   by_cases g:i<k
   ·have x3:decide (((i:Nat):Int)<((k:Nat):Int))=true:=decide_eq_true (by omega)
    simp only[Z3,simprocAttr,effs,ia,t0,t1,t2,a.len,b.len,c.len,fx_6,sp _,zs,q _,qe6,y1,y2,y3,y4,y5,y6,x3]
   ·have x3:decide (((i:Nat):Int)<((k:Nat):Int))=false:=decide_eq_false (by omega)
    have x4:(((i:Nat):Int)==((k:Nat):Int))=true:=by simp;omega
    have x5:decide (((i:Nat):Int)<2)=true:=decide_eq_true (by omega)
    simp only[Z3,simprocAttr,effs,ia,t0,t1,t2,a.len,b.len,c.len,fx_6,sp _,zs,q _,qe6,y1,y2,y3,y4,y5,y6,x3,x4,x5]
  ·simp only[Z3,simprocAttr,effs,ia,t0,t1,t2,a.len,b.len,c.len,fx_6,sa' _,sb' _,sc' _,gi,gk,k1,k2,k3,k4,k5,k6,k7,k8,hJle,hd,p _,x1,x2,sp _,u1 _,u2 _,u3 _,u4 _,y1,y2,y3,y4,y5,y6]
   by_cases g:i<k
   ·have x3:decide (((i:Nat):Int)<((k:Nat):Int))=true:=decide_eq_true (by omega)
    simp only[Z3,simprocAttr,effs,ia,t0,t1,t2,a.len,b.len,c.len,fx_6,sp _,zs,q _,qe6,y1,y2,y3,y4,y5,y6,x3]
   ·have x3:decide (((i:Nat):Int)<((k:Nat):Int))=false:=decide_eq_false (by omega)
    have x4:(((i:Nat):Int)==((k:Nat):Int))=true:=by simp;omega
    have x5:decide (((i:Nat):Int)<2)=true:=decide_eq_true (by omega)
    simp only[Z3,simprocAttr,effs,ia,t0,t1,t2,a.len,b.len,c.len,fx_6,sp _,zs,q _,qe6,y1,y2,y3,y4,y5,y6,x3,x4,x5]
 ·rw[if_neg hr]at p
  have sE:(twoE (opN k) (twoE (opN i) a b) c).Small:=qol (by first|exact qj7 i hi|exact qj7 k hk) (by assumption) (by assumption)
  have q:=(qoo (twoE (opN k) (twoE (opN i) a b) c) (twoE (opN k) (twoE (opN i) a b) c) sE sE).up
  rw[(same_iff (twoE (opN k) (twoE (opN i) a b) c) (twoE (opN k) (twoE (opN i) a b) c)).2 rfl]at q
  have zs:=(twoE (opN k) (twoE (opN i) a b) c).strip
  refine two4 _ (fun x1=> ?_) (fun x1 x2=> ?_)
  ·simp only[Z3,simprocAttr,effs,ia,t0,t1,t2,a.len,b.len,c.len,fx_6,sa' _,sb' _,sc' _,gi,gk,k1,k2,k3,k4,k5,k6,k7,k8,hJle,hd,p _,x1,sp _,u1 _,u2 _,u3 _,u4 _,y1,y2,y3,y4,y5,y6]
   have x3:decide (((i:Nat):Int)<((k:Nat):Int))=false:=decide_eq_false (by omega)
   by_cases g:i=k
   ·have x4:(((i:Nat):Int)==((k:Nat):Int))=true:=by simp;omega
    have x5:decide (((i:Nat):Int)<2)=false:=decide_eq_false (by omega)
    simp only[Z3,simprocAttr,effs,ia,t0,t1,t2,a.len,b.len,c.len,fx_6,sp _,zs,q _,qe6,y1,y2,y3,y4,y5,y6,x3,x4,x5]
   ·have x4:(((i:Nat):Int)==((k:Nat):Int))=false:=by simp;omega
    simp only[Z3,simprocAttr,effs,ia,t0,t1,t2,a.len,b.len,c.len,fx_6,sp _,zs,q _,qe6,y1,y2,y3,y4,y5,y6,x3,x4]
  ·simp only[Z3,simprocAttr,effs,ia,t0,t1,t2,a.len,b.len,c.len,fx_6,sa' _,sb' _,sc' _,gi,gk,k1,k2,k3,k4,k5,k6,k7,k8,hJle,hd,p _,x1,x2,sp _,u1 _,u2 _,u3 _,u4 _,y1,y2,y3,y4,y5,y6]
   have x3:decide (((i:Nat):Int)<((k:Nat):Int))=false:=decide_eq_false (by omega)
   by_cases g:i=k
   ·have x4:(((i:Nat):Int)==((k:Nat):Int))=true:=by simp;omega
    have x5:decide (((i:Nat):Int)<2)=false:=decide_eq_false (by omega)
    simp only[Z3,simprocAttr,effs,ia,t0,t1,t2,a.len,b.len,c.len,fx_6,sp _,zs,q _,qe6,y1,y2,y3,y4,y5,y6,x3,x4,x5]
   ·have x4:(((i:Nat):Int)==((k:Nat):Int))=false:=by simp;omega
    simp only[Z3,simprocAttr,effs,ia,t0,t1,t2,a.len,b.len,c.len,fx_6,sp _,zs,q _,qe6,y1,y2,y3,y4,y5,y6,x3,x4]
end Go.Ab
