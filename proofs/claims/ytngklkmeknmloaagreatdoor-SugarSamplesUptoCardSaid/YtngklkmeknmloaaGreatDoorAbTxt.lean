/- The scanner: Scan. -/
import Derived.Test.YtngklkmeknmloaaGreatDoorAbPr
import Derived.Test.YtngklkmeknmloaaGreatDoorAbRead
import Derived.Test.YtngklkmeknmloaaGreatDoorAbEach
import Derived.Test.YtngklkmeknmloaaGreatDoorAbReadT
import Derived.Test.YtngklkmeknmloaaGreatDoorAbTok
import Derived.Test.YtngklkmeknmloaaGreatDoorAbBox
import Derived.Test.YtngklkmeknmloaaGreatDoorAbTypes
set_option linter.unusedSimpArgs false
set_option linter.unusedVariables false
set_option maxRecDepth 100000
set_option maxHeartbeats 4000000
open Go.Proofs
open List renaming getElem?_eq_some_iff→wa,length_drop→wb,getElem?_set_self→wc,getElem?_set_ne→wd,length_cons→we,not_mem_nil→wh,map_append→wi,mem_cons→wj
open Int renaming natCast_zero→wg
open Nat renaming le_refl→wk
namespace Go.Ab
open Go Go.Ab.Tab
def T:List Str→Nat
 |[]=>0
 |x::r=>x.length+1+T r
end Go.Ab
namespace Go.Ab
open Go Go.Ab.Tab
def signL:List Str:=[[45,62],[60,61],[60,62],[40],[41],[91],[93],[60],[61],[44],[59],[58],[124],[43],[45],[42],[47],[37]]
end Go.Ab
namespace Go.Ab
open Go Go.Ab.Tab
def atP (text:Str) (k:Nat) (t:PTok):PTok:=⟨t.sort,t.text,t.n,(plc (text.take k)).1,(plc (text.take k)).2⟩
def endT:PTok:=⟨6,[],0,0,0⟩
def qek (text:Str):Nat→Nat→Option (List PTok)×Nat
 |0,k=>(none,k)
 |f+1,k=>if k+gapS false (text.drop k)=text.length then(some [atP text (k+gapS false (text.drop k)) endT],0)
  else if(lexT (text.drop (k+gapS false (text.drop k)))).2=true then
   (match qek text f (k+gapS false (text.drop k)+(lexT (text.drop (k+gapS false (text.drop k)))).1.text.length)with
   |(some l,p)=>(some (atP text (k+gapS false (text.drop k)) (lexT (text.drop (k+gapS false (text.drop k)))).1::l),p)
   |(none,p)=>(none,p))
  else(none,k+gapS false (text.drop k))
def strip (t:PTok):PTok:=⟨t.sort,t.text,t.n,0,0⟩
end Go.Ab
namespace Go.Ab
open Go Go.Ab.Tab
theorem qho {n:Nat} {v v':AVal} {h:qaa} {d:List Nat} (hd:∀x∈d,n≤x) (hr:refs (strip3 v)=[]) (hv:strip3 v=v'):some (CR.ret (qaq n v h d).1 (qaq n v h d).2)=some (CR.ret v' .same):=by
 rw[ql8 n v h d hd hr,hv]
theorem token_c (text:Str) (hT:text.length≤65536) (k:Nat) (hk:k<text.length):C 128 [.ptr 0 0] [.box (qa9 text k)]=
 some (.ret (.tuple [.agg (atP text k (lexT (text.drop k)).1).cells,.bool (lexT (text.drop k)).2]) .same):=by
 have c1:qa7 C [.box [.str text,.int .i64 k,.int .i64 (plc (text.take k)).1,.int .i64 (plc (text.take k)).2],.box [.int .i64 0,.str [],.int .i64 0,.int .i64 0,.int .i64 0]] 186 [.ptr 0 0]=some (.ret (.str (text.drop k)) .same):=
  qi5 (c:=C) (b:=0) (H:=[.box (qa9 text k),.box noTok.cells]) (rest:=[]) rfl rfl rfl (rest_c text hT k (by omega)) rfl
 obtain⟨c,r,hcr⟩:∃c r,text.drop k=c::r:=by
  cases h:text.drop k with
  |nil=>
   have:=congrArg List.length h
   rw[wb]at this;simp at this;omega
  |cons c r=>exact⟨c,r,rfl⟩
 have hl:(c::r).length≤65536:=by rw[←hcr,wb];omega
 rw[hcr]at c1 ⊢
 have i0:(c::r)[0]? =some c:=rfl
 have d1:=qod c.toNat
 have d2:=lower_c c.toNat
 have d3:=qoc c.toNat
 have hsc:qa9 text k=[.str text,.int .i64 k,.int .i64 (plc (text.take k)).1,.int .i64 (plc (text.take k)).2]:=rfl
 rw[hsc]
 obtain⟨q,hq⟩:∃q,q=lexT (c::r):=⟨_,rfl⟩
 rw[←hq]
 have hcl:q.1.cells=[.int .i64 q.1.sort,.str q.1.text,.int .i64 q.1.n,.int .i64 q.1.line,.int .i64 q.1.col]:=rfl
 have hat:(atP text k q.1).cells=[.int .i64 q.1.sort,.str q.1.text,.int .i64 q.1.n,.int .i64 (plc (text.take k)).1,.int .i64 (plc (text.take k)).2]:=rfl
 rw[hat]
 cases hd:qbf c.toNat
 ·cases hlo:qfz c.toNat
  ·cases hu:qdm c.toNat
   ·have e:lexT (c::r)=qi7 (c::r):=by simp only[lexT,hd,hlo,hu];rfl
    have s1:=sign_c (c::r) hl
    rw[←e,←hq,hcl]at s1
    rw[C_fn rfl Tryz.func128 rfl (by kernel_rfl) (m:=40) rfl];simp only[Z3,simprocAttr,Tryz.f128,qnr,ty,c1,i0,d1 _,d2 _,d3 _,hd,hlo,hu,s1 _]
    exact qho (by simp[Eff.dirt]) rfl rfl
   ·have e:lexT (c::r)=(nameT (c::r),decide ((qbz (c::r)).length≤24)):=by simp only[lexT,hd,hlo,hu];rfl
    have s1:Ret C 196 [.str (c::r)] (.tuple [.agg (lexT (c::r)).1.cells,.bool (lexT (c::r)).2]):=by rw[e];exact qn0 c r (by unfold qb3;rw[hlo,hu];rfl) hl
    rw[←hq,hcl]at s1
    rw[C_fn rfl Tryz.func128 rfl (by kernel_rfl) (m:=40) rfl];simp only[Z3,simprocAttr,Tryz.f128,qnr,ty,c1,i0,d1 _,d2 _,d3 _,hd,hlo,hu,s1 _]
    exact qho (by simp[Eff.dirt]) rfl rfl
  ·have e:lexT (c::r)=(nameT (c::r),decide ((qbz (c::r)).length≤24)):=by simp only[lexT,hd,hlo];rfl
   have s1:Ret C 196 [.str (c::r)] (.tuple [.agg (lexT (c::r)).1.cells,.bool (lexT (c::r)).2]):=by rw[e];exact qn0 c r (by unfold qb3;rw[hlo];rfl) hl
   rw[←hq,hcl]at s1
   rw[C_fn rfl Tryz.func128 rfl (by kernel_rfl) (m:=40) rfl];simp only[Z3,simprocAttr,Tryz.f128,qnr,ty,c1,i0,d1 _,d2 _,hd,hlo,s1 _]
   exact qho (by simp[Eff.dirt]) rfl rfl
 ·have e:lexT (c::r)=(numT (c::r),numOk (c::r)):=by simp only[lexT,hd];rfl
  have s1:Ret C 193 [.str (c::r)] (.tuple [.agg (lexT (c::r)).1.cells,.bool (lexT (c::r)).2]):=by rw[e];exact number_c c r hd hl
  rw[←hq,hcl]at s1
  rw[C_fn rfl Tryz.func128 rfl (by kernel_rfl) (m:=40) rfl];simp only[Z3,simprocAttr,Tryz.f128,qnr,ty,c1,i0,d1 _,hd,s1 _]
  exact qho (by simp[Eff.dirt]) rfl rfl
theorem lex_len {s:Str} (h:(lexT s).2=true):1≤(lexT s).1.text.length∧(lexT s).1.text.length≤s.length:=by
 cases s with
 |nil=>cases h
 |cons c r=>
  cases hd:qbf c.toNat
  ·cases hl:(qfz c.toNat||qdm c.toNat)
   ·have e:lexT (c::r)=qi7 (c::r):=by simp only[lexT,hd,hl];rfl
    rw[e]at h ⊢
    unfold qi7 at h ⊢
    split at h
    ·rename_i x hx
     have h1:=List.find?_some hx
     have h2:=List.mem_of_find?_eq_some hx
     unfold preB at h1
     simp only[Bool.and_eq_true,decide_eq_true_eq]at h1
     have:∀x∈signL',1≤x.length:=by decide
     exact⟨this x h2,h1.1⟩
    ·cases h
   ·have e:lexT (c::r)=(nameT (c::r),decide ((qbz (c::r)).length≤24)):=by simp only[lexT,hd,hl];rfl
    rw[e]
    have hin:qb3 c.toNat=true:=by unfold qb3;rw[hl];rfl
    show 1≤(qbz (c::r)).length∧(qbz (c::r)).length≤_
    rw[qkl]
    refine⟨?_,qc5 _ _⟩
    simp only[qat,hin,if_true];omega
  ·have e:lexT (c::r)=(numT (c::r),numOk (c::r)):=by simp only[lexT,hd];rfl
   rw[e]
   show 1≤(numD (c::r)).length∧(numD (c::r)).length≤_
   rw[qmv]
   refine⟨?_,qc5 _ _⟩
   simp only[qat,hd,if_true];omega
theorem gapS_le (b:Bool) (s:Str):gapS b s≤s.length:=by
 induction s generalizing b with
 |nil=>cases b<;>exact wk _
 |cons c r ih=>
  have h1:=ih true
  have h2:=ih false
  cases b
  ·simp only[gapS,we]
   split
   ·omega
   ·split<;>omega
  ·simp only[gapS,we]
   split<;>omega
theorem scan_fuel (text:Str):∀(f g k:Nat),text.length+1≤f+k→text.length+1≤g+k→k≤text.length→qek text f k=qek text g k:=by
 intro f
 induction f with
 |zero=>intro g k h1 _ h3;omega
 |succ f ih=>
  intro g k h1 h2 h3
  cases g with
  |zero=>omega
  |succ g=>
   have hg:=gapS_le false (text.drop k)
   rw[wb]at hg
   rw[qek,qek]
   by_cases he:k+gapS false (text.drop k)=text.length
   ·rw[if_pos he,if_pos he]
   ·rw[if_neg he,if_neg he]
    by_cases hx:(lexT (text.drop (k+gapS false (text.drop k)))).2=true
    ·obtain⟨l1,l2⟩:=lex_len hx
     rw[wb]at l2
     rw[if_pos hx,if_pos hx,ih g _ (by omega) (by omega) (by omega)]
    ·rw[if_neg hx,if_neg hx]
end Go.Ab
namespace Go.Ab
open Go Go.Ab.Tab
def qof (text:Str):Nat→PFault:=fun k=>⟨2,(plc (text.take k)).1,(plc (text.take k)).2⟩
def qlq (text:Str):AVal:=
 if 65536<text.length then .tuple [.slice [] .free,.agg (PFault.cells ⟨9,0,0⟩)]
 else match qek text (text.length+1) 0 with
  |(some l,_)=> .tuple [.slice (l.map PTok.cells) .free,.agg (PFault.cells ⟨0,0,0⟩)]
  |(none,k)=> .tuple [.slice [] .free,.agg (qof text k).cells]
def qgf (text:Str) (acc:List PTok) (k:Nat):Option (List PTok)×Nat:=match qek text (text.length+1) k with
 |(some l,_)=>(some (acc++l),0)
 |(none,p)=>(none,p)
theorem tok5 (l:List PTok):∀c∈l.map PTok.cells,c.length=5:=by
 intro c hc
 obtain⟨t,_,rfl⟩:=List.mem_map.1 hc
 rfl
theorem qq0 {h:qaa} {v:AVal} {es:List (List AVal)} {T:TypeId} (g:Grow h v es T) {b:Nat} {x y:List AVal} (hb:h[b]? =some (.box x)):Grow (h.set b (.box y)) v es T:=by
 rcases g with g|⟨t,hv,ht⟩
 ·exact .inl g
 ·refine .inr ⟨t,hv,?_⟩
  have hne:b≠t:=fun e=>by rw[e,ht]at hb;cases hb
  rw[wd hne];exact ht
theorem scan_c (text:Str) (hT:text.length≤65536):Ret C 73 [.str text] (qlq text):=by
 have hv:refs (qlq text)=[]:=by
  unfold qlq;split
  ·rfl
  ·split<;>rfl
 refine Ret.mk rfl hv ?_
 have h1:decide ((65536:Int)<(text.length:Int))=false:=decide_eq_false (by omega)
 have hl0:text.length≤qae:=by unfold qae;omega
 have hs0:[AVal.str text,.int .i64 0,.int .i64 1,.int .i64 1]=qa9 text 0:=by unfold qa9;rw[List.take_zero];rfl
 rw[C_fn rfl Tryz.func73 rfl (by kernel_rfl) (m:=61) rfl];simp only[Z3,simprocAttr,Tryz.f73,fx_73,ty,hl0,h1]
 rw[hs0]
 generalize hb:qar PP cmp0 C lpC _=f;generalize hl:lpC f _=r
 obtain⟨ex,s',rfl,h2⟩:=qlo (α:=Nat×List PTok×AVal) hl [2,6,7,15,16,17,18,19,20,21,22,23,24,25,26,27,28,29,30,31,32,33,34,35,36,37,38,39,40,41,42,43,44,45,46,47,48,49,50,51,52,53,54,55,56,57,58,59,60,61] (fun a=>[(5,a.2.2)]) (fun a h=>h[0]? =some (.box (PFault.cells ⟨0,0,0⟩))∧h[1]? =some (.box (qa9 text a.1))∧Grow h a.2.2 (a.2.1.map PTok.cells) 84∧a.1≤text.length∧a.2.1.length≤a.1) (fun a=>text.length-a.1) (fun a=>qgf text a.2.1 a.1)
  (fun ts r ex s=>ex= .ret∧∃es tk fl,s.tmps[2]? =some (.slice es tk)∧s.tmps[3]? =some (.ptr 0 0)∧s.heap[0]? =some (.box (PFault.cells fl))∧es=(match r.1 with|some l=>l.map PTok.cells|none=>[])∧fl=(match r.1 with|some _=>⟨0,0,0⟩|none=>qof text r.2)) (0,[],.slice [] .full) ⟨rfl,rfl,.inl ⟨rfl,rfl⟩,Nat.zero_le _,wk _⟩ (by simp only[AtT,ats,wg]) (by
   rintro⟨k,acc,v⟩ j h d ⟨q0,q1,hg,hk,hacc⟩
   clear hl;subst hb
   simp only at q0 q1 hg hk hacc ⊢
   obtain⟨E1,hE1,hh1⟩:=qkh keepC (b:=1) (H:=h) (rest:=[]) rfl q1 rfl rfl (blanks_c text hT k hk) rfl
   obtain⟨k1,hk1⟩:∃k1,k1=k+gapS false (text.drop k):=⟨_,rfl⟩
   rw[←hk1]at hh1
   have hk1l:k1≤text.length:=by have:=gapS_le false (text.drop k);rw[wb]at this;omega
   have l1:=(wa.1 q1).1
   obtain⟨g1,hg1⟩:∃g1,g1=h.set 1 (.box (qa9 text k1)):=⟨_,rfl⟩
   rw[←hg1]at hh1
   have p0:g1[0]? =some (.box (PFault.cells ⟨0,0,0⟩)):=by rw[hg1,wd (by decide)];exact q0
   have p1:g1[1]? =some (.box (qa9 text k1)):=by rw[hg1,wc l1]
   have p1':g1[1]? =some (.box [.str text,.int .i64 k1,.int .i64 (plc (text.take k1)).1,.int .i64 (plc (text.take k1)).2]):=p1
   have gg1:=qq0 (y:=qa9 text k1) hg q1
   rw[←hg1]at gg1
   have hlen:decide (1<g1.length)=true:=decide_eq_true (wa.1 p1).1
   have hlen0:decide (0<g1.length)=true:=decide_eq_true (wa.1 p0).1
   by_cases he:k1=text.length
   ·have he':((k1:Int)==(text.length:Int))=true:=by rw[he];exact beq_self_eq_true _
    obtain⟨v1,E2,ha1,hg2,hB2⟩:=qg2 qfs (fs:=[[.int .i64 6,.str [],.int .i64 0,.int .i64 (plc (text.take k1)).1,.int .i64 (plc (text.take k1)).2]]) gg1 (by simp;unfold qae;omega) (tok5 acc) (by intro c hc;simp only[wj,wh,or_false]at hc;subst hc;rfl) (by simp)
    have r0:=hB2 _ _ p0
    have hden:qgf text acc k=(some (acc++[atP text k1 endT]),0):=by
     unfold qgf
     rw[qek,←hk1,if_pos he]
    obtain⟨tk,hv1⟩:∃tk,v1= .slice (acc.map PTok.cells++[[.int .i64 6,.str [],.int .i64 0,.int .i64 (plc (text.take k1)).1,.int .i64 (plc (text.take k1)).2]]) tk:=by
     rcases hg2 with⟨h1,_⟩|⟨t,h1,_⟩
     ·simp at h1
     ·exact⟨_,h1⟩
    have z0:∀(H:qaa) (x y:List AVal),H[0]? =some (.box x)→(H.set 0 (.box y))[0]? =some (.box y):=fun H x y h=>wc (wa.1 h).1
    simp only[Z3,simprocAttr,effs,fx_73,ty,hE1,hh1,p1',hl0,he',hlen,hlen0,ha1,r0,hden]
    refine .inr ⟨_,_,rfl,by simp,rfl,_,tk,⟨0,0,0⟩,by rw[hv1];rfl,rfl,z0 _ _ _ r0,?_,rfl⟩
    simp only[wi];rfl
   ·have he':((k1:Int)==(text.length:Int))=false:=by simp;omega
    obtain⟨q,hq⟩:∃q,q=lexT (text.drop k1):=⟨_,rfl⟩
    have tkc:=qi5 (c:=C) (b:=1) (H:=g1) (rest:=[]) rfl p1 rfl (token_c text hT k1 (by omega)) rfl
    rw[←hq]at tkc
    have hat:(atP text k1 q.1).cells=[.int .i64 q.1.sort,.str q.1.text,.int .i64 q.1.n,.int .i64 (plc (text.take k1)).1,.int .i64 (plc (text.take k1)).2]:=rfl
    rw[hat]at tkc
    obtain⟨tc,htc⟩:∃tc,tc=[AVal.int .i64 q.1.sort,.str q.1.text,.int .i64 q.1.n,.int .i64 (plc (text.take k1)).1,.int .i64 (plc (text.take k1)).2]:=⟨_,rfl⟩
    obtain⟨G,hG⟩:∃G,G=g1++[Blk.box [AVal.int .i64 q.1.sort,.str q.1.text,.int .i64 q.1.n,.int .i64 (plc (text.take k1)).1,.int .i64 (plc (text.take k1)).2]]:=⟨_,rfl⟩
    have G0:G[0]? =some (.box (PFault.cells ⟨0,0,0⟩)):=by rw[hG];exact Boxes.app _ _ _ _ p0
    have G1:G[1]? =some (.box [.str text,.int .i64 k1,.int .i64 (plc (text.take k1)).1,.int .i64 (plc (text.take k1)).2]):=by rw[hG];exact Boxes.app _ _ _ _ p1'
    have Gt:G[g1.length]? =some (.box [AVal.int .i64 q.1.sort,.str q.1.text,.int .i64 q.1.n,.int .i64 (plc (text.take k1)).1,.int .i64 (plc (text.take k1)).2]):=by rw[hG];simp
    have Gl:G.length=g1.length+1:=by rw[hG];simp
    have gG:=gg1.app [Blk.box [AVal.int .i64 q.1.sort,.str q.1.text,.int .i64 q.1.n,.int .i64 (plc (text.take k1)).1,.int .i64 (plc (text.take k1)).2]]
    rw[←hG]at gG
    cases hok:q.2
    ·have hden:qgf text acc k=(none,k1):=by
      unfold qgf
      rw[qek,←hk1,if_neg he,←hq,hok,if_neg (by decide)]
     have z0:∀(H:qaa) (x y:List AVal),H[0]? =some (.box x)→(H.set 0 (.box y))[0]? =some (.box y):=fun H x y h=>wc (wa.1 h).1
     simp only[Z3,simprocAttr,effs,fx_73,ty,hE1,hh1,p1',hl0,he',tkc,hok,←hG,G0,G1,Gl,hlen,hlen0,hden]
     refine .inr ⟨_,_,rfl,by simp,rfl,[],.full,qof text k1,rfl,rfl,z0 _ _ _ G0,rfl,rfl⟩
    ·have hsz:=lex_len (s:=text.drop k1) (by rw[←hq];exact hok)
     rw[←hq,wb]at hsz
     obtain⟨v1,E2,ha1,hg2,hB2⟩:=qg2 qfs (fs:=[[AVal.int .i64 q.1.sort,.str q.1.text,.int .i64 q.1.n,.int .i64 (plc (text.take k1)).1,.int .i64 (plc (text.take k1)).2]]) gG (by simp;unfold qae;omega) (tok5 acc) (by intro c hc;simp only[wj,wh,or_false]at hc;subst hc;rfl) (by simp)
     have r0:=hB2 _ _ G0
     have r1:=hB2 _ _ G1
     have rt:=hB2 _ _ Gt
     obtain⟨E3,hE3,hh3⟩:=qkh keepC (b:=1) (H:=E2.of G) (rest:=[.int .i64 q.1.text.length]) rfl r1 rfl rfl (skip_c text hT k1 q.1.text.length (by omega)) rfl
     have htl:q.1.text.length≤qae:=by unfold qae;omega
     have hden:qgf text acc k=qgf text (acc++[atP text k1 q.1]) (k1+q.1.text.length):=by
      unfold qgf
      rw[qek,←hk1,if_neg he,←hq,hok,if_pos rfl,scan_fuel text text.length (text.length+1) (k1+q.1.text.length) (by omega) (by omega) (by omega)]
      cases hs:qek text (text.length+1) (k1+q.1.text.length)with
      |mk o p=>cases o<;>simp
     simp only[Z3,simprocAttr,effs,fx_73,ty,hE1,hh1,p1',hl0,he',tkc,hok,←hG,G0,G1,Gl,Gt,hlen,hlen0,ha1,rt,htl,hE3,hh3]
     refine .inl ⟨(k1+q.1.text.length,acc++[atP text k1 q.1],v1),_,rfl,⟨?_,?_,?_,by simp only[];omega,by simp only[List.length_append,we,List.length_nil];omega⟩,by simp only[AtT,ats,wg],by simp only[];omega,hden.symm⟩
     ·show((E2.of G).set 1 _)[0]? =_
      rw[wd (by decide)];exact r0
     ·show((E2.of G).set 1 _)[1]? =_
      exact wc (wa.1 r1).1
     ·have hm:(acc++[atP text k1 q.1]).map PTok.cells=acc.map PTok.cells++[[AVal.int .i64 q.1.sort,.str q.1.text,.int .i64 q.1.n,.int .i64 (plc (text.take k1)).1,.int .i64 (plc (text.take k1)).2]]:=by rw[wi];rfl
      show Grow ((E2.of G).set 1 _) v1 ((acc++[atP text k1 q.1]).map PTok.cells) _
      rw[hm]
      exact qq0 hg2 r1)
 obtain⟨rfl,es,tk,fl,t2,t3,q0,rfl,rfl⟩:=h2
 clear hl
 simp only[Z3,simprocAttr,effs,fx_73,ty,t2,t3,q0]
 rw[qbr _ _ _ rfl,qbs _ _ _ rfl]
 unfold qlq qgf
 rw[if_neg (by omega)]
 cases hs:qek text (text.length+1) 0 with
 |mk o p=>cases o<;>rfl
end Go.Ab
