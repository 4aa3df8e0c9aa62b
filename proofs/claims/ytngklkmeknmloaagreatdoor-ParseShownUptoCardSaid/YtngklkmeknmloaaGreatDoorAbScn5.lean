/- The parser gives up: reading a text, where the program throws. -/
import Derived.Test.YtngklkmeknmloaaGreatDoorAbTok
import Derived.Test.YtngklkmeknmloaaGreatDoorAbShow
import Derived.Test.YtngklkmeknmloaaGreatDoorAbInv
import Derived.Test.YtngklkmeknmloaaGreatDoorAbTypes
import Derived.Test.YtngklkmeknmloaaGreatDoorAbPsY
import Derived.Test.YtngklkmeknmloaaGreatDoorAbDfS
import Derived.Test.YtngklkmeknmloaaGreatDoorAbPf12
set_option linter.unusedSimpArgs false
set_option linter.unusedVariables false
set_option maxRecDepth 100000
set_option maxHeartbeats 4000000
open Go.Proofs
open List renaming getElem?_eq_some_iff→wa,getElem?_set_self→wb,getElem?_set_ne→wc,length_drop→wd,map_cons→we,map_nil→wf,length_nil→wg,length_cons→wh,not_mem_nil→wj,map_append→wk,mem_cons→wm
open Int renaming natCast_zero→wi
open Nat renaming le_refl→wo
namespace Go.Ab
open Go Go.Ab.Tab
theorem qnb {n:Nat} {v v':AVal} {h:qab} {d:List Nat} (hd:∀x∈d,n≤x) (hr:refs (strip3 v)=[]) (hv:strip3 v=v'):some (CR.ret (qbq n v h d).1 (qbq n v h d).2)=some (CR.ret v' .same):=by
 rw[qa2 n v h d hd hr,hv]
theorem token_c (text:Str) (hT:text.length≤65536) (k:Nat) (hk:k<text.length):C 128 [.ptr 0 0] [.box (qdk text k)]=
 some (.ret (.tuple [.agg (atP text k (lexT (text.drop k)).1).cells,.bool (lexT (text.drop k)).2]) .same):=by
 have c1:qai C [.box [.str text,.int .i64 k,.int .i64 (plc (text.take k)).1,.int .i64 (plc (text.take k)).2],.box [.int .i64 0,.str [],.int .i64 0,.int .i64 0,.int .i64 0]] 186 [.ptr 0 0]=some (.ret (.str (text.drop k)) .same):=
  qcm (c:=C) (b:=0) (H:=[.box (qdk text k),.box noTok.cells]) (rest:=[]) rfl rfl rfl (rest_c text hT k (by omega)) rfl
 obtain⟨c,r,hcr⟩:∃c r,text.drop k=c::r:=by
  cases h:text.drop k with
  |nil=>
   have:=congrArg List.length h
   rw[wd]at this;simp at this;omega
  |cons c r=>exact⟨c,r,rfl⟩
 have hl:(c::r).length≤65536:=by rw[←hcr,wd];omega
 rw[hcr]at c1 ⊢
 have i0:(c::r)[0]? =some c:=rfl
 have d1:=qzm c.toNat
 have d2:=qzl c.toNat
 have d3:=qvi c.toNat
 have hsc:qdk text k=[.str text,.int .i64 k,.int .i64 (plc (text.take k)).1,.int .i64 (plc (text.take k)).2]:=rfl
 rw[hsc]
 obtain⟨q,hq⟩:∃q,q=lexT (c::r):=⟨_,rfl⟩
 rw[←hq]
 have hcl:q.1.cells=[.int .i64 q.1.sort,.str q.1.text,.int .i64 q.1.n,.int .i64 q.1.line,.int .i64 q.1.col]:=rfl
 have hat:(atP text k q.1).cells=[.int .i64 q.1.sort,.str q.1.text,.int .i64 q.1.n,.int .i64 (plc (text.take k)).1,.int .i64 (plc (text.take k)).2]:=rfl
 rw[hat]
 cases hd:qcg c.toNat
 ·cases hlo:qe5 c.toNat
  ·cases hu:qei c.toNat
   ·have e:lexT (c::r)=qpo (c::r):=by simp only[lexT,hd,hlo,hu];rfl
    have s1:=sign_c (c::r) hl
    rw[←e,←hq,hcl]at s1
    rw[C_fn rfl Tryz.func128 rfl (by kernel_rfl) (m:=40) rfl];simp only[Z3,simprocAttr,Tryz.f128,qx9,ty,c1,i0,d1 _,d2 _,d3 _,hd,hlo,hu,s1 _]
    exact qnb (by simp[Eff.dirt]) rfl rfl
   ·have e:lexT (c::r)=(qny (c::r),decide ((qen (c::r)).length≤24)):=by simp only[lexT,hd,hlo,hu];rfl
    have s1:Ret C 196 [.str (c::r)] (.tuple [.agg (lexT (c::r)).1.cells,.bool (lexT (c::r)).2]):=by rw[e];exact qyr c r (by unfold qbz;rw[hlo,hu];rfl) hl
    rw[←hq,hcl]at s1
    rw[C_fn rfl Tryz.func128 rfl (by kernel_rfl) (m:=40) rfl];simp only[Z3,simprocAttr,Tryz.f128,qx9,ty,c1,i0,d1 _,d2 _,d3 _,hd,hlo,hu,s1 _]
    exact qnb (by simp[Eff.dirt]) rfl rfl
  ·have e:lexT (c::r)=(qny (c::r),decide ((qen (c::r)).length≤24)):=by simp only[lexT,hd,hlo];rfl
   have s1:Ret C 196 [.str (c::r)] (.tuple [.agg (lexT (c::r)).1.cells,.bool (lexT (c::r)).2]):=by rw[e];exact qyr c r (by unfold qbz;rw[hlo];rfl) hl
   rw[←hq,hcl]at s1
   rw[C_fn rfl Tryz.func128 rfl (by kernel_rfl) (m:=40) rfl];simp only[Z3,simprocAttr,Tryz.f128,qx9,ty,c1,i0,d1 _,d2 _,hd,hlo,s1 _]
   exact qnb (by simp[Eff.dirt]) rfl rfl
 ·have e:lexT (c::r)=(numT (c::r),qsh (c::r)):=by simp only[lexT,hd];rfl
  have s1:Ret C 193 [.str (c::r)] (.tuple [.agg (lexT (c::r)).1.cells,.bool (lexT (c::r)).2]):=by rw[e];exact number_c c r hd hl
  rw[←hq,hcl]at s1
  rw[C_fn rfl Tryz.func128 rfl (by kernel_rfl) (m:=40) rfl];simp only[Z3,simprocAttr,Tryz.f128,qx9,ty,c1,i0,d1 _,hd,s1 _]
  exact qnb (by simp[Eff.dirt]) rfl rfl
theorem qzv {s:Str} (h:(lexT s).2=true):1≤(lexT s).1.text.length∧(lexT s).1.text.length≤s.length:=by
 cases s with
 |nil=>cases h
 |cons c r=>
  cases hd:qcg c.toNat
  ·cases hl:(qe5 c.toNat||qei c.toNat)
   ·have e:lexT (c::r)=qpo (c::r):=by simp only[lexT,hd,hl];rfl
    rw[e]at h ⊢
    unfold qpo at h ⊢
    split at h
    ·rename_i x hx
     have h1:=List.find?_some hx
     have h2:=List.mem_of_find?_eq_some hx
     unfold preB at h1
     simp only[Bool.and_eq_true,decide_eq_true_eq]at h1
     have:∀x∈signL',1≤x.length:=by decide
     exact⟨this x h2,h1.1⟩
    ·cases h
   ·have e:lexT (c::r)=(qny (c::r),decide ((qen (c::r)).length≤24)):=by simp only[lexT,hd,hl];rfl
    rw[e]
    have hin:qbz c.toNat=true:=by unfold qbz;rw[hl];rfl
    show 1≤(qen (c::r)).length∧(qen (c::r)).length≤_
    rw[qt8]
    refine⟨?_,qhq _ _⟩
    simp only[qbe,hin,if_true];omega
  ·have e:lexT (c::r)=(numT (c::r),qsh (c::r)):=by simp only[lexT,hd];rfl
   rw[e]
   show 1≤(numD (c::r)).length∧(numD (c::r)).length≤_
   rw[qw2]
   refine⟨?_,qhq _ _⟩
   simp only[qbe,hd,if_true];omega
theorem qzw (b:Bool) (s:Str):gapS b s≤s.length:=by
 induction s generalizing b with
 |nil=>cases b<;>exact wo _
 |cons c r ih=>
  have h1:=ih true
  have h2:=ih false
  cases b
  ·simp only[gapS,wh]
   split
   ·omega
   ·split<;>omega
  ·simp only[gapS,wh]
   split<;>omega
theorem scan_fuel (text:Str):∀(f g k:Nat),text.length+1≤f+k→text.length+1≤g+k→k≤text.length→qcn text f k=qcn text g k:=by
 intro f
 induction f with
 |zero=>intro g k h1 _ h3;omega
 |succ f ih=>
  intro g k h1 h2 h3
  cases g with
  |zero=>omega
  |succ g=>
   have hg:=qzw false (text.drop k)
   rw[wd]at hg
   rw[qcn,qcn]
   by_cases he:k+gapS false (text.drop k)=text.length
   ·rw[if_pos he,if_pos he]
   ·rw[if_neg he,if_neg he]
    by_cases hx:(lexT (text.drop (k+gapS false (text.drop k)))).2=true
    ·obtain⟨l1,l2⟩:=qzv hx
     rw[wd]at l2
     rw[if_pos hx,if_pos hx,ih g _ (by omega) (by omega) (by omega)]
    ·rw[if_neg hx,if_neg hx]
end Go.Ab
namespace Go.Ab
open Go Go.Ab.Tab
def qzx (text:Str):Nat→PFault:=fun k=>⟨2,(plc (text.take k)).1,(plc (text.take k)).2⟩
def qhn (text:Str):AVal:=
 if 65536<text.length then .tuple [.slice [] .free,.agg (PFault.cells ⟨9,0,0⟩)]
 else match qcn text (text.length+1) 0 with
  |(some l,_)=> .tuple [.slice (l.map PTok.cells) .free,.agg (PFault.cells ⟨0,0,0⟩)]
  |(none,k)=> .tuple [.slice [] .free,.agg (qzx text k).cells]
def qn1 (text:Str) (acc:List PTok) (k:Nat):Option (List PTok)×Nat:=match qcn text (text.length+1) k with
 |(some l,_)=>(some (acc++l),0)
 |(none,p)=>(none,p)
theorem scan_big (text:Str) (hT:65536<text.length) (hl:text.length≤qac):Ret C 73 [.str text] (qhn text):=by
 refine Ret.mk rfl (by unfold qhn;rw[if_pos hT];rfl) ?_
 unfold qhn
 rw[if_pos hT]
 have h1:decide ((65536:Int)<(text.length:Int))=true:=decide_eq_true (by omega)
 rw[C_fn rfl Tryz.func73 rfl (by kernel_rfl) (m:=61) rfl];simp only[Z3,simprocAttr,Tryz.f73,qvb,ty,hl,h1]
 exact qnb (by simp[Eff.dirt]) rfl rfl
theorem tok5 (l:List PTok):∀c∈l.map PTok.cells,c.length=5:=by
 intro c hc
 obtain⟨t,_,rfl⟩:=List.mem_map.1 hc
 rfl
theorem q3v {h:qab} {v:AVal} {es:List (List AVal)} {T:TypeId} (g:Grow h v es T) {b:Nat} {x y:List AVal} (hb:h[b]? =some (.box x)):Grow (h.set b (.box y)) v es T:=by
 rcases g with g|⟨t,hv,ht⟩
 ·exact .inl g
 ·refine .inr ⟨t,hv,?_⟩
  have hne:b≠t:=fun e=>by rw[e,ht]at hb;cases hb
  rw[wc hne];exact ht
theorem qyz (text:Str) (hT:text.length≤65536):Ret C 73 [.str text] (qhn text):=by
 have hv:refs (qhn text)=[]:=by
  unfold qhn;split
  ·rfl
  ·split<;>rfl
 refine Ret.mk rfl hv ?_
 have h1:decide ((65536:Int)<(text.length:Int))=false:=decide_eq_false (by omega)
 have hl0:text.length≤qac:=by unfold qac;omega
 have hs0:[AVal.str text,.int .i64 0,.int .i64 1,.int .i64 1]=qdk text 0:=by unfold qdk;rw[List.take_zero];rfl
 rw[C_fn rfl Tryz.func73 rfl (by kernel_rfl) (m:=61) rfl];simp only[Z3,simprocAttr,Tryz.f73,qvb,ty,hl0,h1]
 rw[hs0]
 generalize hb:qan PP cmp0 C lpC _=f;generalize hl:lpC f _=r
 obtain⟨ex,s',rfl,h2⟩:=qbv (α:=Nat×List PTok×AVal) hl [2,6,7,15,16,17,18,19,20,21,22,23,24,25,26,27,28,29,30,31,32,33,34,35,36,37,38,39,40,41,42,43,44,45,46,47,48,49,50,51,52,53,54,55,56,57,58,59,60,61] (fun a=>[(5,a.2.2)]) (fun a h=>h[0]? =some (.box (PFault.cells ⟨0,0,0⟩))∧h[1]? =some (.box (qdk text a.1))∧Grow h a.2.2 (a.2.1.map PTok.cells) 84∧a.1≤text.length∧a.2.1.length≤a.1) (fun a=>text.length-a.1) (fun a=>qn1 text a.2.1 a.1)
  (fun ts r ex s=>ex= .ret∧∃es tk fl,s.tmps[2]? =some (.slice es tk)∧s.tmps[3]? =some (.ptr 0 0)∧s.heap[0]? =some (.box (PFault.cells fl))∧es=(match r.1 with|some l=>l.map PTok.cells|none=>[])∧fl=(match r.1 with|some _=>⟨0,0,0⟩|none=>qzx text r.2)) (0,[],.slice [] .full) ⟨rfl,rfl,.inl ⟨rfl,rfl⟩,Nat.zero_le _,wo _⟩ (by simp only[AtT,ats,wi]) (by
   rintro⟨k,acc,v⟩ j h d ⟨q0,q1,hg,hk,hacc⟩
   clear hl;subst hb
   simp only at q0 q1 hg hk hacc ⊢
   obtain⟨E1,hE1,hh1⟩:=qel qao (b:=1) (H:=h) (rest:=[]) rfl q1 rfl rfl (blanks_c text hT k hk) rfl
   obtain⟨k1,hk1⟩:∃k1,k1=k+gapS false (text.drop k):=⟨_,rfl⟩
   rw[←hk1]at hh1
   have hk1l:k1≤text.length:=by have:=qzw false (text.drop k);rw[wd]at this;omega
   have l1:=(wa.1 q1).1
   obtain⟨g1,hg1⟩:∃g1,g1=h.set 1 (.box (qdk text k1)):=⟨_,rfl⟩
   rw[←hg1]at hh1
   have p0:g1[0]? =some (.box (PFault.cells ⟨0,0,0⟩)):=by rw[hg1,wc (by decide)];exact q0
   have p1:g1[1]? =some (.box (qdk text k1)):=by rw[hg1,wb l1]
   have p1':g1[1]? =some (.box [.str text,.int .i64 k1,.int .i64 (plc (text.take k1)).1,.int .i64 (plc (text.take k1)).2]):=p1
   have gg1:=q3v (y:=qdk text k1) hg q1
   rw[←hg1]at gg1
   have hlen:decide (1<g1.length)=true:=decide_eq_true (wa.1 p1).1
   have hlen0:decide (0<g1.length)=true:=decide_eq_true (wa.1 p0).1
   by_cases he:k1=text.length
   ·have he':((k1:Int)==(text.length:Int))=true:=by rw[he];exact beq_self_eq_true _
    obtain⟨v1,E2,ha1,hg2,hB2⟩:=q23 qmv (fs:=[[.int .i64 6,.str [],.int .i64 0,.int .i64 (plc (text.take k1)).1,.int .i64 (plc (text.take k1)).2]]) gg1 (by simp;unfold qac;omega) (tok5 acc) (by intro c hc;simp only[wm,wj,or_false]at hc;subst hc;rfl) (by simp)
    have r0:=hB2 _ _ p0
    have hden:qn1 text acc k=(some (acc++[atP text k1 endT]),0):=by
     unfold qn1
     rw[qcn,←hk1,if_pos he]
    obtain⟨tk,hv1⟩:∃tk,v1= .slice (acc.map PTok.cells++[[.int .i64 6,.str [],.int .i64 0,.int .i64 (plc (text.take k1)).1,.int .i64 (plc (text.take k1)).2]]) tk:=by
     rcases hg2 with⟨h1,_⟩|⟨t,h1,_⟩
     ·simp at h1
     ·exact⟨_,h1⟩
    have z0:∀(H:qab) (x y:List AVal),H[0]? =some (.box x)→(H.set 0 (.box y))[0]? =some (.box y):=fun H x y h=>wb (wa.1 h).1
    simp only[Z3,simprocAttr,effs,qvb,ty,hE1,hh1,p1',hl0,he',hlen,hlen0,ha1,r0,hden]
    refine .inr ⟨_,_,rfl,by simp,rfl,_,tk,⟨0,0,0⟩,by rw[hv1];rfl,rfl,z0 _ _ _ r0,?_,rfl⟩
    simp only[wk];rfl
   ·have he':((k1:Int)==(text.length:Int))=false:=by simp;omega
    obtain⟨q,hq⟩:∃q,q=lexT (text.drop k1):=⟨_,rfl⟩
    have tkc:=qcm (c:=C) (b:=1) (H:=g1) (rest:=[]) rfl p1 rfl (token_c text hT k1 (by omega)) rfl
    rw[←hq]at tkc
    have hat:(atP text k1 q.1).cells=[.int .i64 q.1.sort,.str q.1.text,.int .i64 q.1.n,.int .i64 (plc (text.take k1)).1,.int .i64 (plc (text.take k1)).2]:=rfl
    rw[hat]at tkc
    obtain⟨tc,htc⟩:∃tc,tc=[AVal.int .i64 q.1.sort,.str q.1.text,.int .i64 q.1.n,.int .i64 (plc (text.take k1)).1,.int .i64 (plc (text.take k1)).2]:=⟨_,rfl⟩
    obtain⟨G,hG⟩:∃G,G=g1++[Blk.box [AVal.int .i64 q.1.sort,.str q.1.text,.int .i64 q.1.n,.int .i64 (plc (text.take k1)).1,.int .i64 (plc (text.take k1)).2]]:=⟨_,rfl⟩
    have G0:G[0]? =some (.box (PFault.cells ⟨0,0,0⟩)):=by rw[hG];exact Boxes.app _ _ _ _ p0
    have G1:G[1]? =some (.box [.str text,.int .i64 k1,.int .i64 (plc (text.take k1)).1,.int .i64 (plc (text.take k1)).2]):=by rw[hG];exact Boxes.app _ _ _ _ p1'
    have Gt:G[g1.length]? =some (.box [AVal.int .i64 q.1.sort,.str q.1.text,.int .i64 q.1.n,.int .i64 (plc (text.take k1)).1,.int .i64 (plc (text.take k1)).2]):=by rw[hG];simp
    have Gl:G.length=g1.length+1:=by rw[hG];simp
    have gG:=gg1.app [Blk.box [AVal.int .i64 q.1.sort,.str q.1.text,.int .i64 q.1.n,.int .i64 (plc (text.take k1)).1,.int .i64 (plc (text.take k1)).2]]
    rw[←hG]at gG
    cases hok:q.2
    ·have hden:qn1 text acc k=(none,k1):=by
      unfold qn1
      rw[qcn,←hk1,if_neg he,←hq,hok,if_neg (by decide)]
     have z0:∀(H:qab) (x y:List AVal),H[0]? =some (.box x)→(H.set 0 (.box y))[0]? =some (.box y):=fun H x y h=>wb (wa.1 h).1
     simp only[Z3,simprocAttr,effs,qvb,ty,hE1,hh1,p1',hl0,he',tkc,hok,←hG,G0,G1,Gl,hlen,hlen0,hden]
     refine .inr ⟨_,_,rfl,by simp,rfl,[],.full,qzx text k1,rfl,rfl,z0 _ _ _ G0,rfl,rfl⟩
    ·have hsz:=qzv (s:=text.drop k1) (by rw[←hq];exact hok)
     rw[←hq,wd]at hsz
     obtain⟨v1,E2,ha1,hg2,hB2⟩:=q23 qmv (fs:=[[AVal.int .i64 q.1.sort,.str q.1.text,.int .i64 q.1.n,.int .i64 (plc (text.take k1)).1,.int .i64 (plc (text.take k1)).2]]) gG (by simp;unfold qac;omega) (tok5 acc) (by intro c hc;simp only[wm,wj,or_false]at hc;subst hc;rfl) (by simp)
     have r0:=hB2 _ _ G0
     have r1:=hB2 _ _ G1
     have rt:=hB2 _ _ Gt
     obtain⟨E3,hE3,hh3⟩:=qel qao (b:=1) (H:=E2.of G) (rest:=[.int .i64 q.1.text.length]) rfl r1 rfl rfl (skip_c text hT k1 q.1.text.length (by omega)) rfl
     have htl:q.1.text.length≤qac:=by unfold qac;omega
     have hden:qn1 text acc k=qn1 text (acc++[atP text k1 q.1]) (k1+q.1.text.length):=by
      unfold qn1
      rw[qcn,←hk1,if_neg he,←hq,hok,if_pos rfl,scan_fuel text text.length (text.length+1) (k1+q.1.text.length) (by omega) (by omega) (by omega)]
      cases hs:qcn text (text.length+1) (k1+q.1.text.length)with
      |mk o p=>cases o<;>simp
     simp only[Z3,simprocAttr,effs,qvb,ty,hE1,hh1,p1',hl0,he',tkc,hok,←hG,G0,G1,Gl,Gt,hlen,hlen0,ha1,rt,htl,hE3,hh3]
     refine .inl ⟨(k1+q.1.text.length,acc++[atP text k1 q.1],v1),_,rfl,⟨?_,?_,?_,by simp only[];omega,by simp only[List.length_append,wh,wg];omega⟩,by simp only[AtT,ats,wi],by simp only[];omega,hden.symm⟩
     ·show((E2.of G).set 1 _)[0]? =_
      rw[wc (by decide)];exact r0
     ·show((E2.of G).set 1 _)[1]? =_
      exact wb (wa.1 r1).1
     ·have hm:(acc++[atP text k1 q.1]).map PTok.cells=acc.map PTok.cells++[[AVal.int .i64 q.1.sort,.str q.1.text,.int .i64 q.1.n,.int .i64 (plc (text.take k1)).1,.int .i64 (plc (text.take k1)).2]]:=by rw[wk];rfl
      show Grow ((E2.of G).set 1 _) v1 ((acc++[atP text k1 q.1]).map PTok.cells) _
      rw[hm]
      exact q3v hg2 r1)
 obtain⟨rfl,es,tk,fl,t2,t3,q0,rfl,rfl⟩:=h2
 clear hl
 simp only[Z3,simprocAttr,effs,qvb,ty,t2,t3,q0]
 rw[qep _ _ _ rfl,qeq _ _ _ rfl]
 unfold qhn qn1
 rw[if_neg (by omega)]
 cases hs:qcn text (text.length+1) 0 with
 |mk o p=>cases o<;>rfl
end Go.Ab
namespace Go.Ab
open Go Go.Ab.Tab
def qhx:List AVal:=[.int .i64 0,.int .i64 0,.int .i64 0]
theorem qy0:Ret C 75 [.nili] (.agg qhx):=by
 refine Ret.mk rfl rfl ?_
 rw[C_fn rfl Tryz.func75 rfl (by kernel_rfl) (m:=17) rfl];simp only[Z3,simprocAttr,Tryz.f75,fx_75]
 exact qfw (by simp[Eff.dirt]) rfl rfl
theorem readP_c (text:Str) (hT:text.length≤65536) {l ts':List PTok} {k:Nat} {p:PProg} (hs:qcn text (text.length+1) 0=(some l,k)) (g:qbj C 37 [.ptr 0 0] [.box (pbox l 0)] (.agg p.cells) [.box (pbox ts' 0)]):
 fnF PP cmp0 C lpC 36 [.str text,.func 37 [] []] []=some (.ret (.tuple [.agg p.cells,.agg qhx]) .same):=by
 have hsc:=qyz text hT
 have hv:qhn text= .tuple [.slice (l.map PTok.cells) .free,.agg (PFault.cells ⟨0,0,0⟩)]:=by unfold qhn;rw[if_neg (by omega),hs]
 rw[hv]at hsc
 have hf0:PFault.cells ⟨0,0,0⟩=[.int .i64 0,.int .i64 0,.int .i64 0]:=rfl
 rw[hf0]at hsc
 obtain⟨E,hE,hh⟩:=qel (c:=C) (v:= .agg p.cells) (x:=pbox l 0) (y:=pbox ts' 0) qao (b:=2) (H:=[.box [.slice [] .full,.slice [] .full],.box [.int .i64 0,.int .i64 0,.int .i64 0],.box (pbox l 0)]) (rest:=[]) rfl rfl (qaa _ _) (qaa _ _) g (by simp only[refs];exact p.norefs)
 have hh2:E.of [.box [.slice [] .full,.slice [] .full],.box [.int .i64 0,.int .i64 0,.int .i64 0],.box (pbox l 0)]=[.box [.slice [] .full,.slice [] .full],.box [.int .i64 0,.int .i64 0,.int .i64 0],.box (pbox ts' 0)]:=hh
 have hE:qai C [.box [.slice [] .full,.slice [] .full],.box [.int .i64 0,.int .i64 0,.int .i64 0],.box [.slice (l.map PTok.cells) .free,.int .i64 0]] 37 [.ptr 2 0]=some (.ret (.agg p.cells) E):=hE
 have hh2:E.of [.box [.slice [] .full,.slice [] .full],.box [.int .i64 0,.int .i64 0,.int .i64 0],.box [.slice (l.map PTok.cells) .free,.int .i64 0]]=[.box [.slice [] .full,.slice [] .full],.box [.int .i64 0,.int .i64 0,.int .i64 0],.box (pbox ts' 0)]:=hh2
 have sp:∀(x0 x1:AVal),qau [x0,x1] 0 p.cells=some p.cells:=fun _ _=>qci (by rw[p.len];rfl)
 apply fnF_go Tryz.func36 rfl (m:=22) rfl
 ·apply qf3 (by kernel_rfl) (by kernel_rfl)
  ·simp only[Z3,simprocAttr,Tryz.f36,qix];rfl
  apply qf3 (by kernel_rfl) (by kernel_rfl)
  ·simp only[Z3,simprocAttr,qix,hsc _];rfl
  apply qf3 (by kernel_rfl) (by kernel_rfl)
  ·simp only[Z3,simprocAttr,qix];rfl
  apply qwy (by kernel_rfl) rfl
  ·simp only[Z3,simprocAttr,effs,qix,hE,hh2,sp,p.ones,p.len]
   rfl
  ·rfl
  ·rfl
 ·apply qzk Tryz.func74 rfl (by rfl) (by kernel_rfl) (by kernel_rfl) (m:=7) rfl
  ·simp only[Z3,simprocAttr,fx_74,qy0 _];rfl
  ·simp only[Z3,simprocAttr,fx_74];rfl
 ·unfold endF
  rw[show resA PP _ _=some [.agg p.cells,.agg qhx]from ?_]
  ·simp only[wg]
   rw[qgg _ _ _ (by simp only[qcf,strip3,strip2,we,wf,p.strip,refs,qad,p.norefs];rfl)]
   simp only[qcf,strip3,strip2,we,wf,p.strip]
   rfl
  ·simp only[Z3,simprocAttr,Tryz.f36,qix,p.len,p.take];rfl
theorem pexprF_c {R:Rd} (hR:HypE R) {ts ts':List PTok} {e:PExpr} (hT:TsOk ts) (h:R 0 1 ts= .ok e ts') (h6:qd6 ts'=6):qbj C 49 [.ptr 0 0] [.box (pbox ts 0)] (.agg e.cells) [.box (pbox ts' 0)]:=by
 obtain⟨hT',g⟩:=qdy hR hT h
 obtain⟨t,r,rfl⟩:=hT'.ne
 obtain⟨E,e1,e2⟩:=g.m rfl
 have d6:(t.sort !=6)=false:=by have h6:t.sort=6:=h6;rw[h6];rfl
 refine qa9 rfl Tryz.func49 rfl (by kernel_rfl) (m:=12) rfl ?_;simp only[Z3,simprocAttr,Tryz.f49,fx_49,effs,e1,e2,qe9,d6]
 exact qfa (ts:=t::r) (d:=0) (.inl rfl) rfl rfl (qit e) rfl rfl
theorem readE_c (text:Str) (hT:text.length≤65536) {l ts':List PTok} {k:Nat} {p:PExpr} (hs:qcn text (text.length+1) 0=(some l,k)) (g:qbj C 49 [.ptr 0 0] [.box (pbox l 0)] (.agg p.cells) [.box (pbox ts' 0)]):
 fnF PP cmp0 C lpC 48 [.str text,.func 49 [] []] []=some (.ret (.tuple [.agg p.cells,.agg qhx]) .same):=by
 have hsc:=qyz text hT
 have hv:qhn text= .tuple [.slice (l.map PTok.cells) .free,.agg (PFault.cells ⟨0,0,0⟩)]:=by unfold qhn;rw[if_neg (by omega),hs]
 rw[hv]at hsc
 have hf0:PFault.cells ⟨0,0,0⟩=[.int .i64 0,.int .i64 0,.int .i64 0]:=rfl
 rw[hf0]at hsc
 obtain⟨E,hE,hh⟩:=qel (c:=C) (v:= .agg p.cells) (x:=pbox l 0) (y:=pbox ts' 0) qao (b:=2) (H:=[.box [.int .i64 0,.str [],.int .i64 0,.slice [] .full,.slice [] .full],.box [.int .i64 0,.int .i64 0,.int .i64 0],.box (pbox l 0)]) (rest:=[]) rfl rfl (qaa _ _) (qaa _ _) g (by simp only[refs];exact p.norefs)
 have hh2:E.of [.box [.int .i64 0,.str [],.int .i64 0,.slice [] .full,.slice [] .full],.box [.int .i64 0,.int .i64 0,.int .i64 0],.box (pbox l 0)]=[.box [.int .i64 0,.str [],.int .i64 0,.slice [] .full,.slice [] .full],.box [.int .i64 0,.int .i64 0,.int .i64 0],.box (pbox ts' 0)]:=hh
 have hE:qai C [.box [.int .i64 0,.str [],.int .i64 0,.slice [] .full,.slice [] .full],.box [.int .i64 0,.int .i64 0,.int .i64 0],.box [.slice (l.map PTok.cells) .free,.int .i64 0]] 49 [.ptr 2 0]=some (.ret (.agg p.cells) E):=hE
 have hh2:E.of [.box [.int .i64 0,.str [],.int .i64 0,.slice [] .full,.slice [] .full],.box [.int .i64 0,.int .i64 0,.int .i64 0],.box [.slice (l.map PTok.cells) .free,.int .i64 0]]=[.box [.int .i64 0,.str [],.int .i64 0,.slice [] .full,.slice [] .full],.box [.int .i64 0,.int .i64 0,.int .i64 0],.box (pbox ts' 0)]:=hh2
 have sp:∀(x0 x1 x2 x3 x4:AVal),qau [x0,x1,x2,x3,x4] 0 p.cells=some p.cells:=fun _ _ _ _ _=>qci (by rw[p.len];rfl)
 apply fnF_go Tryz.func48 rfl (m:=22) rfl
 ·apply qf3 (by kernel_rfl) (by kernel_rfl)
  ·simp only[Z3,simprocAttr,Tryz.f48,fx_48];rfl
  apply qf3 (by kernel_rfl) (by kernel_rfl)
  ·simp only[Z3,simprocAttr,fx_48,hsc _];rfl
  apply qf3 (by kernel_rfl) (by kernel_rfl)
  ·simp only[Z3,simprocAttr,fx_48];rfl
  apply qwy (by kernel_rfl) rfl
  ·simp only[Z3,simprocAttr,effs,fx_48,hE,hh2,sp,p.ones,p.len]
   rfl
  ·rfl
  ·rfl
 ·apply qzk Tryz.func98 rfl (by rfl) (by kernel_rfl) (by kernel_rfl) (m:=7) rfl
  ·simp only[Z3,simprocAttr,fx_98,qy0 _];rfl
  ·simp only[Z3,simprocAttr,fx_98];rfl
 ·unfold endF
  rw[show resA PP _ _=some [.agg p.cells,.agg qhx]from ?_]
  ·simp only[wg]
   rw[qgg _ _ _ (by simp only[qcf,strip3,strip2,we,wf,p.strip,refs,qad,p.norefs];rfl)]
   simp only[qcf,strip3,strip2,we,wf,p.strip]
   rfl
  ·simp only[Z3,simprocAttr,Tryz.f48,fx_48,p.len,p.take];rfl
end Go.Ab
namespace Go.Ab
open Go Go.Ab.Tab
section
variable {P:Program} {cmp:Nat→FuncId→List AVal→qab→Option Int} {call:FuncId→List AVal→qab→Option CR}
end
def faultC (e:Int):List PTok→List AVal
 |t::_=>[.int .i64 e,.int .i64 t.line,.int .i64 t.col]
 |[]=>[.int .i64 e,.int .i64 0,.int .i64 0]
theorem faultL_eq (e:Int) (ts:List PTok):qbc e ts= .iface 29 (.agg (faultC e ts)):=by cases ts<;>rfl
theorem caught_f (a b c:Int):Ret C 75 [.iface 29 (.agg [.int .i64 a,.int .i64 b,.int .i64 c])] (.agg [.int .i64 a,.int .i64 b,.int .i64 c]):=by
 refine Ret.mk rfl rfl ?_
 rw[C_fn rfl Tryz.func75 rfl (by kernel_rfl) (m:=17) rfl];simp only[Z3,simprocAttr,Tryz.f75,fx_75]
 exact qfw (by simp[Eff.dirt]) rfl rfl
end Go.Ab
namespace Go.Ab
open Go Go.Ab.Tab
theorem fnF_gop {P:Program} {cmp} {call} {lp} {f:FuncId} {fn:Func} {c:Code} (hf:P.funcs[f]? =some fn) (hb:fn.body=some c) {args:List AVal} {h:qab} {X:Option CR} {m:Nat} (hm:fn.ntmps-args.length=m) {tm:List AVal} {H5:qab} {d:List Nat} {g:FuncId} {fi ca:List AVal} {v:AVal} {s6:St}
 (h1:qco P cmp call lp c ⟨args++List.replicate m .undef,h,[]⟩=some (.pan v,⟨tm,H5,d⟩,some (.func g fi ca))) (h2:runF P cmp call lp g (fi++ca) (some v) H5=some s6) (h3:endF P fn h ⟨tm,s6.heap,s6.dirty++d⟩=X):
 fnF P cmp call lp f args h=X:=by
 subst hm
 rw[fnF_pan hf hb h1 h2];exact h3
theorem q49 {c:Call} (hkeep:qbb c) {H:qab} {f:FuncId} {args:List AVal} {v:AVal} (idx:List Nat) (hidx:qc0 H 256 (qad args) []=idx) (hnd:idx.Nodup) (hok:qdo H idx args=true)
 (g:Pans c f (renL (fun x=>idx.idxOf x) args) (subH H idx) v) (hv:refs v=[]):∃e:Eff,qai c H f args=some (.pan v e)∧∀b,b<H.length→b∉idx→(e.of H)[b]? =H[b]? :=by
 obtain⟨e,h2⟩:=g
 refine⟨qhs H idx e,?_,fun b h3 h4=>(qkl (ql4 hnd hok).1 (hkeep _ _ _ _ h2)).out b h3 h4⟩
 unfold qai
 simp only[hidx]
 rw[if_pos hok,h2]
 simp only
 rw[qf6 v (by rw[hv];simp)]
end Go.Ab
namespace Go.Ab
open Go Go.Ab.Tab
theorem readP_p (text:Str) (hT:text.length≤65536) {l ts':List PTok} {k:Nat} {a b c:Int} (ha:a≠0) (hs:qcn text (text.length+1) 0=(some l,k)) (g:Pans C 37 [.ptr 0 0] [.box (pbox l 0)] (.iface 29 (.agg [.int .i64 a,.int .i64 b,.int .i64 c]))):
 fnF PP cmp0 C lpC 36 [.str text,.func 37 [] []] []=some (.ret (.tuple [.agg [.slice [] .free,.slice [] .free],.agg [.int .i64 a,.int .i64 b,.int .i64 c]]) .same):=by
 have hsc:=qyz text hT
 have hv:qhn text= .tuple [.slice (l.map PTok.cells) .free,.agg (PFault.cells ⟨0,0,0⟩)]:=by unfold qhn;rw[if_neg (by omega),hs]
 rw[hv]at hsc
 have hf0:PFault.cells ⟨0,0,0⟩=[.int .i64 0,.int .i64 0,.int .i64 0]:=rfl
 rw[hf0]at hsc
 obtain⟨E,hE,hO⟩:∃E:Eff,qai C [.box [.slice [] .full,.slice [] .full],.box [.int .i64 0,.int .i64 0,.int .i64 0],.box (pbox l 0)] 37 [.ptr 2 0]=some (.pan (.iface 29 (.agg [.int .i64 a,.int .i64 b,.int .i64 c])) E)∧∀k,k<3→k∉[2]→(E.of [.box [.slice [] .full,.slice [] .full],.box [.int .i64 0,.int .i64 0,.int .i64 0],.box (pbox l 0)])[k]? =([.box [.slice [] .full,.slice [] .full],.box [.int .i64 0,.int .i64 0,.int .i64 0],.box (pbox l 0)]:qab)[k]? :=by
  have e1:subH [.box [.slice [] .full,.slice [] .full],.box [.int .i64 0,.int .i64 0,.int .i64 0],.box (pbox l 0)] [2]=[.box (pbox l 0)]:=by simp[subH,renB,qbw (qaa _ _)]
  have e2:renL (fun x=>[2].idxOf x) [.ptr 2 0]=[.ptr 0 0]:=rfl
  refine q49 qao [2] ?_ (by simp) ?_ (by rw[e1,e2];exact g) rfl
  ·simp[qc0,qad,refs,qaa]
  ·unfold qdo
   simp[qdx,qad,refs,qaa]
 have hE:qai C [.box [.slice [] .full,.slice [] .full],.box [.int .i64 0,.int .i64 0,.int .i64 0],.box [.slice (l.map PTok.cells) .free,.int .i64 0]] 37 [.ptr 2 0]=some (.pan (.iface 29 (.agg [.int .i64 a,.int .i64 b,.int .i64 c])) E):=hE
 have z0:=hO 0 (by omega) (by simp)
 have z1:=hO 1 (by omega) (by simp)
 obtain⟨G,hG⟩:∃G,G=E.of [.box [.slice [] .full,.slice [] .full],.box [.int .i64 0,.int .i64 0,.int .i64 0],.box (pbox l 0)]:=⟨_,rfl⟩
 rw[←hG]at z0 z1
 have hG:E.of [.box [.slice [] .full,.slice [] .full],.box [.int .i64 0,.int .i64 0,.int .i64 0],.box [.slice (l.map PTok.cells) .free,.int .i64 0]]=G:=hG.symm
 have z0:G[0]? =some (.box [.slice [] .full,.slice [] .full]):=z0
 have z1:G[1]? =some (.box [.int .i64 0,.int .i64 0,.int .i64 0]):=z1
 have l1:=(wa.1 z1).1
 obtain⟨G1,hG1⟩:∃G1,G1=G.set 1 (.box [.int .i64 a,.int .i64 b,.int .i64 c]):=⟨_,rfl⟩
 have y1:G1[1]? =some (.box [.int .i64 a,.int .i64 b,.int .i64 c]):=by rw[hG1,wb l1]
 have y0:G1[0]? =some (.box [.slice [] .full,.slice [] .full]):=by rw[hG1,wc (by decide)];exact z0
 have ar:argA (AVal.iface 29 (.agg [.int .i64 a,.int .i64 b,.int .i64 c]))=AVal.iface 29 (.agg [.int .i64 a,.int .i64 b,.int .i64 c]):=rfl
 have n0:(a !=0)=true:=by simpa using ha
 obtain⟨G2,hG2⟩:∃G2,G2=G1++[Blk.box [AVal.slice [] .full,.slice [] .full]]:=⟨_,rfl⟩
 have x0:G2[0]? =some (.box [.slice [] .full,.slice [] .full]):=by rw[hG2];exact Boxes.app _ _ _ _ y0
 have x1:G2[1]? =some (.box [.int .i64 a,.int .i64 b,.int .i64 c]):=by rw[hG2];exact Boxes.app _ _ _ _ y1
 have x2:G2[G1.length]? =some (.box [.slice [] .full,.slice [] .full]):=by rw[hG2];simp
 have l0:=(wa.1 x0).1
 have v0:(G2.set 0 (.box [.slice [] .full,.slice [] .full]))[0]? =some (.box [.slice [] .full,.slice [] .full]):=wb l0
 have v1:(G2.set 0 (.box [.slice [] .full,.slice [] .full]))[1]? =some (.box [.int .i64 a,.int .i64 b,.int .i64 c]):=by rw[wc (by decide)];exact x1
 apply fnF_gop Tryz.func36 rfl (m:=22) rfl
 ·apply qf3 (by kernel_rfl) (by kernel_rfl)
  ·simp only[Z3,simprocAttr,Tryz.f36,qix];rfl
  apply qf3 (by kernel_rfl) (by kernel_rfl)
  ·simp only[Z3,simprocAttr,qix,hsc _];rfl
  apply qf3 (by kernel_rfl) (by kernel_rfl)
  ·simp only[Z3,simprocAttr,qix];rfl
  apply qwy (by kernel_rfl) rfl
  ·simp only[Z3,simprocAttr,effs,pans,qix,hE,hG]
   rfl
  ·rfl
  ·rfl
 ·apply qzk Tryz.func74 rfl (by rfl) (by kernel_rfl) (by kernel_rfl) (m:=7) rfl
  ·simp only[Z3,simprocAttr,fx_74,effs,ar,caught_f _ _ _ _,hG,z1,←hG1];rfl
  ·simp only[Z3,simprocAttr,fx_74,effs,y1,n0,←hG2,x2,x0];rfl
 ·unfold endF
  rw[show resA PP _ _=some [.agg [.slice [] .full,.slice [] .full],.agg [.int .i64 a,.int .i64 b,.int .i64 c]]from ?_]
  ·simp only[wg]
   rw[qgg _ _ _ (by simp only[qcf,strip3,strip2,we,wf,refs,qad];rfl)]
   simp only[qcf,strip3,strip2,we,wf]
   rfl
  ·simp only[Z3,simprocAttr,Tryz.f36,qix,v0,v1]
end Go.Ab
