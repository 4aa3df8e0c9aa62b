/- The parser gives up: reading a text, where the program throws. -/
import Derived.Test.YtngklkmeknmloaaGreatDoorAbTxt
import Derived.Test.YtngklkmeknmloaaGreatDoorAbEach
import Derived.Test.YtngklkmeknmloaaGreatDoorAbReadT
import Derived.Test.YtngklkmeknmloaaGreatDoorAbScn
import Derived.Test.YtngklkmeknmloaaGreatDoorAbEff
import Derived.Test.YtngklkmeknmloaaGreatDoorAbTypes
import Derived.Test.YtngklkmeknmloaaGreatDoorAbPsY
import Derived.Test.YtngklkmeknmloaaGreatDoorAbDfS
import Derived.Test.YtngklkmeknmloaaGreatDoorAbPf7
set_option linter.unusedSimpArgs false
set_option linter.unusedVariables false
set_option maxRecDepth 100000
set_option maxHeartbeats 4000000
open Go.Proofs
open List renaming getElem?_eq_some_iff→wa,length_cons→wc,not_mem_nil→wd,length_drop→we,mem_cons→wg,getElem?_set_self→wh,map_cons→wi,length_append→wj,cons_append→wk,map_nil→wm,getElem?_set_ne→wo,eq_nil_of_length_eq_zero→wq,drop_left→wt,all_cons→wu,getElem_mem→wv,append_nil→wz,length_nil→w6,mem_map→w7,map_append→waa,take_left→wba,drop_drop→wca
open Bool renaming and_eq_true→wb
open Nat renaming add_zero→ww,le_refl→w8
open Int renaming natCast_zero→w9
namespace Go.Ab
open Go Go.Ab.Tab
theorem imax_max (a b:Int):imax a b=max a b:=by unfold imax;omega
theorem q16 (e:PExpr):nd e≤qac→e.depth=(nd e:Int):=by
 induction e using PExpr.induct with
 |h op name n cons ks ih=>
  intro h
  simp only[nd]at h ⊢
  have key:∀(l:List PExpr) (a:Nat),(∀k∈l,k∈ks)→qlz l (a:Int)=((max a (ndL l):Nat):Int):=by
   intro l
   induction l with
   |nil=>intro a _;simp only[qlz,ndL];omega
   |cons x r ihl=>
    intro a hm
    have hx:nd x≤qac:=by have:=nd_le (hm x (by simp));omega
    have e1:=ih x (hm x (by simp)) hx
    simp only[qlz,ndL,e1,imax_max]
    have:max (a:Int) (nd x:Int)=((max a (nd x):Nat):Int):=by omega
    rw[this,ihl (max a (nd x)) (fun k hk=>hm k (by simp[hk]))]
    omega
  have:=key ks 0 (fun k hk=>hk)
  simp only[PExpr.depth]
  have h0:((0:Nat):Int)=0:=rfl
  rw[h0]at this
  rw[this]
  unfold wadd
  have hl:ndL ks≤qac:=by omega
  have hm:max 0 (ndL ks)=ndL ks:=by omega
  rw[hm,qav hl]
theorem nd_bulk (e:PExpr):nd e≤e.bulk:=by
 induction e using PExpr.induct with
 |h op name n cons ks ih=>
  simp only[nd,PExpr.bulk]
  have:ndL ks≤PExpr.bulkL ks:=by
   clear name n cons op
   induction ks with
   |nil=>simp[ndL]
   |cons x r ihl=>
    have h1:=ih x (by simp)
    have h2:=ihl (fun k hk=>ih k (by simp[hk]))
    simp only[ndL,PExpr.bulkL];omega
  omega
def signL:List Str:=[[45,62],[60,61],[60,62],[40],[41],[91],[93],[60],[61],[44],[59],[58],[124],[43],[45],[42],[47],[37]]
inductive WOk:Str→Prop where
 |name {s:Str}:qcf s=true→WOk s
 |con {s:Str}:qfb s=true→WOk s
 |word {s:Str}:s∈wordL→WOk s
 |sign {s:Str}:s∈signL→WOk s
 |int (n:Int):0≤n→n≤9223372036854775807→WOk (decB n)
def Oks (l:List Str):Prop:=∀w∈l,WOk w
theorem qyd:Oks []:=fun w h=>by cases h
theorem qef {w:Str} {l:List Str} (h:WOk w) (k:Oks l):Oks (w::l):=fun x hx=>by
 rcases wg.1 hx with rfl|hx
 ·exact h
 ·exact k x hx
theorem qb3 {a b:List Str} (h:Oks a) (k:Oks b):Oks (a++b):=fun x hx=>by
 rcases List.mem_append.1 hx with hx|hx
 ·exact h x hx
 ·exact k x hx
theorem qcc {w:Str} (h:WOk w):Oks [w]:=qef h qyd
theorem qye {s:Str} (hs:WOk s) {L:List (List Str)} (h:∀x∈L,Oks x):Oks (sepW s L):=by
 cases L with
 |nil=>exact qyd
 |cons x r=>
  refine qb3 (h x (by simp)) (fun w hw=> ?_)
  obtain⟨y,hy,hw⟩:=List.mem_flatMap.1 hw
  exact qef hs (h y (by simp[hy])) w hw
theorem q17 {s:Str} (hs:WOk s) {l:List Str} (h:∀x∈l,WOk x):Oks (qer l s):=by
 refine qye hs (fun x hx=> ?_)
 obtain⟨y,hy,rfl⟩:=w7.1 hx
 exact qcc (h y hy)
theorem oks_br {l:List Str} (h:∀x∈l,WOk x):Oks (brW l):=by
 unfold brW
 split
 ·exact qyd
 ·exact qb3 (qb3 (qcc (.sign (by decide))) (q17 (.sign (by decide)) h)) (qcc (.sign (by decide)))
theorem unL_ok {s:Str} (h:s∈unL):WOk s:=by
 simp only[unL,wg,wd,or_false]at h
 rcases h with rfl|rfl
 ·exact .word (by decide)
 ·exact .sign (by decide)
theorem binL_ok {s:Str} (h:s∈binL):WOk s:=by
 simp only[binL,wg,wd,or_false]at h
 rcases h with rfl|rfl|rfl|rfl|rfl|rfl|rfl|rfl|rfl|rfl|rfl<;>first|exact .sign (by decide)|exact .word (by decide)
theorem quf {a b:List Str} {s:Str} (ha:Oks a) (hs:WOk s) (hb:Oks b):Oks (btwW a s b):=
 qb3 (qb3 (qb3 (qb3 (qcc (.sign (by decide))) ha) (qcc hs)) hb) (qcc (.sign (by decide)))
theorem q18 {e:PExpr} (g:Good e):e.Rng→Oks e.words:=by
 induction g with
 |int n h=>intro hr;rw[qas];exact qcc (.int n h hr.n.2)
 |bool n h=>intro hr;rw[qas];rcases h with rfl|rfl<;>exact qcc (.word (by decide))
 |con s h=>intro hr;rw[qas];exact qcc (.con h)
 |var s h=>intro hr;rw[qas];exact qcc (.name h)
 |un s k h g ih=>
  intro hr;rw[qas]
  exact qb3 (qb3 (qef (.sign (by decide)) (qcc (unL_ok h))) (ih (hr.kids k (by simp[eUn,PExpr.kids])))) (qcc (.sign (by decide)))
 |bin s a b h ga gb iha ihb=>
  intro hr;rw[qas]
  exact quf (iha (hr.kids a (by simp[eBin,PExpr.kids]))) (binL_ok h) (ihb (hr.kids b (by simp[eBin,PExpr.kids])))
 |cond a b c ga gb gc iha ihb ihc=>
  intro hr;rw[qas]
  exact qb3 (qb3 (qb3 (qb3 (qb3 (qb3 (qef (.sign (by decide)) (qcc (.word (by decide)))) (iha (hr.kids a (by simp[eIf,PExpr.kids])))) (qcc (.word (by decide)))) (ihb (hr.kids b (by simp[eIf,PExpr.kids])))) (qcc (.word (by decide)))) (ihc (hr.kids c (by simp[eIf,PExpr.kids])))) (qcc (.sign (by decide)))
 |fby a b ga gb iha ihb=>
  intro hr;rw[qas]
  exact quf (iha (hr.kids a (by simp[eFby,PExpr.kids]))) (.word (by decide)) (ihb (hr.kids b (by simp[eFby,PExpr.kids])))
 |pre k g ih=>
  intro hr;rw[qas]
  exact qb3 (qb3 (qef (.sign (by decide)) (qcc (.word (by decide)))) (ih (hr.kids k (by simp[ePre,PExpr.kids])))) (qcc (.sign (by decide)))
 |arrow a b ga gb iha ihb=>
  intro hr;rw[qas]
  exact quf (iha (hr.kids a (by simp[qd8,PExpr.kids]))) (.sign (by decide)) (ihb (hr.kids b (by simp[qd8,PExpr.kids])))
 |when x c k hx hc g ih=>
  intro hr;rw[qas]
  exact qb3 (qb3 (qb3 (qb3 (qcc (.sign (by decide))) (ih (hr.kids k (by simp[qgw,PExpr.kids])))) (qcc (.word (by decide)))) (q17 (.sign (by decide)) (fun y hy=>by obtain rfl:=List.mem_singleton.1 hy;exact .con hc))) (qef (.sign (by decide)) (qef (.name hx) (qef (.sign (by decide)) (qcc (.sign (by decide))))))
 |arms op x cons kids hop hx hl h1 hc hk ih=>
  intro hr;rw[qas]
  have key:Oks (sepW [124] (armL cons (kids.map PExpr.words))):=by
   refine qye (.sign (by decide)) (fun z hz=> ?_)
   unfold armL at hz
   obtain⟨i,hi,rfl⟩:=List.getElem_of_mem hz
   simp only[List.getElem_zipWith,List.getElem_map]
   exact qb3 (qef (.con (hc _ (wv _))) (qcc (.sign (by decide)))) (ih _ (wv _) (hr.kids _ (wv _)))
  rcases hop with rfl|rfl
  ·exact qb3 (qb3 (qef (.word (by decide)) (qef (.name hx) (qcc (.sign (by decide))))) key) (qcc (.sign (by decide)))
  ·exact qb3 (qb3 (qef (.word (by decide)) (qef (.name hx) (qcc (.sign (by decide))))) key) (qcc (.sign (by decide)))
 |call x cons kids hx hc h3 hk ih=>
  intro hr;rw[qas]
  exact qb3 (qb3 (qb3 (qb3 (qcc (.name hx)) (oks_br (fun c h=> .name (hc c h)))) (qcc (.sign (by decide)))) (qye (.sign (by decide)) (fun z hz=>by
   obtain⟨k,hk',rfl⟩:=w7.1 hz
   exact ih k hk' (hr.kids k hk')))) (qcc (.sign (by decide)))
 |every a b hop ga gb iha ihb=>
  intro hr;rw[qas]
  exact quf (iha (hr.kids a (by simp[qe1,PExpr.kids]))) (.word (by decide)) (ihb (hr.kids b (by simp[qe1,PExpr.kids])))
def noB (w:Str):Prop:=w≠[]∧∀c∈w,c≠32
theorem qmy {w:Str} (h:WOk w):noB w:=by
 cases h with
 |name h=>
  simp only[qcf,wb]at h
  obtain⟨c,r,rfl,_,_,hs⟩:=qf3 h.1
  exact⟨by simp,qps _ hs⟩
 |con h=>
  obtain⟨c,r,rfl,_,_,hs⟩:=qf3 h
  exact⟨by simp,qps _ hs⟩
 |word h=> 
  have:∀x∈wordL,x≠[]∧∀c∈x,c≠32:=by decide
  exact this _ h
 |sign h=>
  have:∀x∈signL,x≠[]∧∀c∈x,c≠32:=by decide
  exact this _ h
 |int n h0 h1=>
  obtain⟨a,_,c⟩:=qq1 h0 h1
  refine⟨c,fun x hx e=> ?_⟩
  subst e
  have:=List.all_eq_true.1 a 32 hx
  revert this;decide
end Go.Ab
namespace Go.Ab
open Go Go.Ab.Tab
def atP (text:Str) (k:Nat) (t:PTok):PTok:=⟨t.sort,t.text,t.n,(plc (text.take k)).1,(plc (text.take k)).2⟩
def endT:PTok:=⟨6,[],0,0,0⟩
def qb8 (text:Str):Nat→Nat→Option (List PTok)×Nat
 |0,k=>(none,k)
 |f+1,k=>if k+gapS false (text.drop k)=text.length then(some [atP text (k+gapS false (text.drop k)) endT],0)
  else if(lexT (text.drop (k+gapS false (text.drop k)))).2=true then
   (match qb8 text f (k+gapS false (text.drop k)+(lexT (text.drop (k+gapS false (text.drop k)))).1.text.length)with
   |(some l,p)=>(some (atP text (k+gapS false (text.drop k)) (lexT (text.drop (k+gapS false (text.drop k)))).1::l),p)
   |(none,p)=>(none,p))
  else(none,k+gapS false (text.drop k))
def strip (t:PTok):PTok:=⟨t.sort,t.text,t.n,0,0⟩
theorem qvu (text:Str) (k:Nat) (t:PTok) (h:t=strip t):strip (atP text k t)=t:=by
 rw[h];rfl
def Brk (p:Int→Bool) (r:Str):Prop:=r=[]∨∃c t,r=c::t∧p c.toNat=false
theorem qoh {p:Int→Bool}:∀{w r:Str},qa1 p w=w.length→Brk p r→qa1 p (w++r)=w.length
 |[],r,_,h=>by
  rcases h with rfl|⟨c,t,rfl,hc⟩
  ·rfl
  ·simp only[List.nil_append,qa1,hc];rfl
 |c::w,r,h,hb=>by
  simp only[qa1]at h
  split at h
  ·rename_i hc
   simp only[wk,qa1,hc,if_true,wc]at h ⊢
   rw[qoh (by omega) hb]
  ·simp at h
def Bl (r:Str):Prop:=r=[]∨∃t,r=32::t
theorem Bl.brk {r:Str} (h:Bl r) (p:Int→Bool) (hp:p 32=false):Brk p r:=by
 rcases h with rfl|⟨t,rfl⟩
 ·exact .inl rfl
 ·exact .inr ⟨32,t,rfl,hp⟩
theorem wordD_app {w r:Str} (h:qa1 qa5 w=w.length) (hb:Bl r):qco (w++r)=w:=by
 unfold qco
 rw[qoh h (hb.brk qa5 rfl),wba]
theorem qnh {w r:Str} {c:UInt8} {t:Str} (hw:w=c::t) (hd:qby c.toNat=false) (hl:(qdm c.toNat||qc4 c.toNat)=true) (hs:qa1 qa5 w=w.length) (h24:w.length≤24) (hb:Bl r):
 lexT (w++r)=(⟨if wordL.any (w== ·)then 5 else if qc4 c.toNat then 2 else 1,w,0,0,0⟩,true):=by
 have e:=wordD_app hs hb
 subst hw
 rw[wk]at e ⊢
 simp only[lexT,hd,hl,if_true,qkz,e,List.headD_cons]
 rw[decide_eq_true h24];rfl
theorem qzi:∀w∈wordL,qjo w=5∧qa1 qa5 w=w.length∧w.length≤24∧w≠[]:=by decide
theorem sign_tok:∀w∈signL,qjo w=4:=by decide
theorem sign_lex {w:Str} (h:w∈signL) {r:Str} (hb:Bl r):lexT (w++r)=(⟨4,w,0,0,0⟩,true):=by
 simp only[signL,wg,wd,or_false]at h
 rcases hb with rfl|⟨t,rfl⟩
 ·rcases h with rfl|rfl|rfl|rfl|rfl|rfl|rfl|rfl|rfl|rfl|rfl|rfl|rfl|rfl|rfl|rfl|rfl|rfl<;>rfl
 ·rcases h with rfl|rfl|rfl|rfl|rfl|rfl|rfl|rfl|rfl|rfl|rfl|rfl|rfl|rfl|rfl|rfl|rfl|rfl<;>rfl
theorem dig_span {w:Str} (h:qd3 w=true):qa1 qby w=w.length:=by
 induction w with
 |nil=>rfl
 |cons c t ih=>
  unfold qd3 at h
  rw[wu,wb]at h
  simp only[qa1,h.1,if_true,wc,ih h.2]
theorem dig_inner {w:Str} (h:qd3 w=true):qa1 qa5 w=w.length:=by
 induction w with
 |nil=>rfl
 |cons c t ih=>
  unfold qd3 at h
  rw[wu,wb]at h
  have:qa5 c.toNat=true:=by unfold qa5;rw[h.1];simp
  simp only[qa1,this,if_true,wc,ih h.2]
theorem qzj:∀(f n:Nat),n<10 ^ f→0<f→decN f n=[48]∨(0<n∧∃c t,decN f n=c::t∧c≠48)
 |0,n,_,h0=>by omega
 |f+1,n,h,_=>by
  rw[qy5]
  by_cases hn:n<10
  ·rw[if_pos hn]
   by_cases hz:n=0
   ·subst hz;exact .inl rfl
   ·refine .inr ⟨by omega,_,[],rfl,fun e=> ?_⟩
    have:=congrArg UInt8.toNat e
    rw[qor n hn]at this
    have h48:(48:UInt8).toNat=48:=rfl
    omega
  ·rw[if_neg hn]
   have h10:n/10<10 ^ f:=by
    rw[Nat.pow_succ]at h
    exact Nat.div_lt_of_lt_mul (by rw[Nat.mul_comm];exact h)
   have hf:0<f:=by
    cases f with
    |zero=>simp at h;omega
    |succ f=>omega
   rcases qzj f (n/10) h10 hf with h1|⟨_,c,t,h1,h2⟩
   ·exfalso
    have:=(q1i f (n/10) h10).2.1
    rw[h1]at this
    have h3:valN 0 [48]=0:=rfl
    omega
   ·exact .inr ⟨by omega,c,t++[UInt8.ofNat (48+n % 10)],by rw[h1];rfl,h2⟩
theorem int_lex {n:Int} (h0:0≤n) (h1:n≤9223372036854775807) {r:Str} (hb:Bl r):lexT (decB n++r)=(⟨3,decB n,n,0,0⟩,true):=by
 obtain⟨a,b,c⟩:=qq1 h0 h1
 have hz:decB n=[48]∨(decB n).head? ≠some 48:=by
  unfold decB
  rw[if_neg (by omega)]
  have hp:(100000000000000000000:Nat)=10 ^ 20:=rfl
  rcases qzj 20 n.toNat (by rw[←hp];omega) (by omega)with h|⟨_,c,t,h,h2⟩
  ·exact .inl h
  ·refine .inr ?_
   rw[h];simpa using h2
 generalize decB n=w at a b c hz
 have hnd:numD (w++r)=w:=by
  unfold numD
  rw[qoh (dig_span a) (hb.brk qby rfl),wba]
 have hin:qa1 qa5 (w++r)=w.length:=qoh (dig_inner a) (hb.brk qa5 rfl)
 have hle:valN 0 w≤maxI:=by unfold maxI;omega
 cases w with
 |nil=>exact absurd rfl c
 |cons d t=>
  have hd:qby d.toNat=true:=by
   unfold qd3 at a
   rw[wu,wb]at a;exact a.1
  have hnz:notZ (d::t)=true:=by
   unfold notZ
   rcases hz with hz|hz
   ·rw[hz];rfl
   ·have:((d::t).head? ==some (48:UInt8))=false:=by simpa using hz
    rw[this];simp
  rw[wk]at hnd hin ⊢
  have e:lexT (d::(t++r))=(numT (d::(t++r)),qq9 (d::(t++r))):=by simp only[lexT,hd];rfl
  rw[e]
  unfold numT qq9
  rw[hnd,hin,if_pos hle,decide_eq_true hle,hnz,b]
  simp
theorem qug {w:Str} (h:WOk w) {r:Str} (hb:Bl r):lexT (w++r)=(tokW w,true):=by
 cases h with
 |name h=>
  have h':=h
  simp only[qcf,wb,Bool.not_eq_true']at h'
  obtain⟨c,t,hw,hc,h24,hs⟩:=qf3 h'.1
  rw[qil h]
  rw[←hw]at h24 hs
  rw[qnh hw (qop _ hc) (by rw[hc];rfl) hs h24 hb,h'.2,qoq _ hc];rfl
 |con h=>
  obtain⟨c,t,hw,hc,h24,hs⟩:=qf3 h
  rw[qpr h]
  rw[←hw]at h24 hs
  have hn:wordL.any (w== ·)=false:=by rw[hw];exact qsr c t hc
  rw[qnh hw (qux _ hc) (by rw[hc];simp) hs h24 hb,hn,hc];rfl
 |word h=>
  obtain⟨h1,h2,h3,h4⟩:=qzi w h
  obtain⟨c,t,hw⟩:∃c t,w=c::t:=by
   cases w with
   |nil=>exact absurd rfl h4
   |cons c t=>exact⟨c,t,rfl⟩
  have hlow:qdm c.toNat=true:=by have:=qsq w h;rw[hw]at this;exact this
  have hany:=mem_any h
  rw[qnh hw (qop _ hlow) (by rw[hlow];rfl) h2 h3 hb,hany]
  unfold tokW;rw[h1];rfl
 |sign h=>
  rw[sign_lex h hb]
  unfold tokW;rw[sign_tok w h];rfl
 |int n h0 h1=>rw[int_lex h0 h1 hb,qx6 h0 h1]
theorem qla {w:Str} (h:WOk w) {r:Str} (hb:Bl r):gapS false (w++r)=0:=by
 have noblank:∀(c:UInt8) (t:Str),qe5 c.toNat=false→¬(c=45∧t.head? =some 45)→gapS false (c::t)=0:=by
  intro c t h1 h2
  simp only[gapS,h1,if_neg h2];rfl
 have inner:∀c:UInt8,qa5 c.toNat=true→qe5 c.toNat=false∧c≠45:=by
  intro c hc
  have hr:qa5 c.toNat=true→qe5 c.toNat=false:=by
   intro h
   unfold qa5 qdm qc4 qby at h
   unfold qe5
   simp only[Bool.or_eq_true,wb,decide_eq_true_eq,beq_iff_eq]at h
   simp only[Bool.or_eq_false_iff,beq_eq_false_iff_ne,ne_eq]
   omega
  refine⟨hr hc,fun e=> ?_⟩
  subst e;revert hc;decide
 have wl:∀(c:UInt8) (t:Str),w=c::t→qa5 c.toNat=true→gapS false (w++r)=0:=by
  intro c t hw hc
  obtain⟨h1,h2⟩:=inner c hc
  rw[hw,wk]
  exact noblank c _ h1 (fun h=>h2 h.1)
 cases h with
 |name h=>
  simp only[qcf,wb]at h
  obtain⟨c,t,hw,hc,_,_⟩:=qf3 h.1
  exact wl c t hw (by unfold qa5;rw[hc];rfl)
 |con h=>
  obtain⟨c,t,hw,hc,_,_⟩:=qf3 h
  exact wl c t hw (by unfold qa5;rw[hc];simp)
 |word h=>
  obtain⟨h1,h2,h3,h4⟩:=qzi w h
  obtain⟨c,t,hw⟩:∃c t,w=c::t:=by
   cases w with
   |nil=>exact absurd rfl h4
   |cons c t=>exact⟨c,t,rfl⟩
  have hlow:qdm c.toNat=true:=by have:=qsq w h;rw[hw]at this;exact this
  exact wl c t hw (by unfold qa5;rw[hlow];rfl)
 |sign h=>
  simp only[signL,wg,wd,or_false]at h
  rcases hb with rfl|⟨t,rfl⟩
  ·rcases h with rfl|rfl|rfl|rfl|rfl|rfl|rfl|rfl|rfl|rfl|rfl|rfl|rfl|rfl|rfl|rfl|rfl|rfl<;>rfl
  ·rcases h with rfl|rfl|rfl|rfl|rfl|rfl|rfl|rfl|rfl|rfl|rfl|rfl|rfl|rfl|rfl|rfl|rfl|rfl<;>rfl
 |int n h0 h1=>
  obtain⟨a,_,c⟩:=qq1 h0 h1
  obtain⟨d,t,hw⟩:∃d t,decB n=d::t:=by
   cases hh:decB n with
   |nil=>exact absurd hh c
   |cons d t=>exact⟨d,t,rfl⟩
  have hd:qby d.toNat=true:=by
   rw[hw]at a;unfold qd3 at a
   rw[wu,wb]at a;exact a.1
  exact wl d t hw (by unfold qa5;rw[hd];simp)
theorem qxk (w:Str):tokW w=strip (tokW w):=rfl
theorem qra:∀(ws:List Str) (pre:Str) (f:Nat),ws≠[]→Oks ws→ws.length<f→∃l e,qb8 (pre++J ws) f pre.length=(some (l++[e]),0)∧l.map strip=toks ws∧strip e=endT
 |[],_,_,h,_,_=>absurd rfl h
 |[w],pre,f,_,ho,hf=>by
  have hw:=ho w (by simp)
  obtain⟨f,rfl⟩:∃g,f=g+2:=⟨f-2,by simp at hf;omega⟩
  have hd:(pre++J [w]).drop pre.length=w:=by rw[wt];rfl
  have hne:w≠[]:=(qmy hw).1
  have hg:gapS false w=0:=by have:=qla hw (r:=[]) (.inl rfl);rwa [wz]at this
  have hx:lexT w=(tokW w,true):=by have:=qug hw (r:=[]) (.inl rfl);rwa [wz]at this
  have hlen:(pre++J [w]).length=pre.length+w.length:=by rw[wj];rfl
  have hend:(pre++J [w]).drop (pre.length+w.length)=[]:=List.drop_eq_nil_of_le (by rw[hlen];exact w8 _)
  have hwl:w.length≠0:=fun e=>hne (wq e)
  refine⟨[atP (pre++J [w]) pre.length (tokW w)],atP (pre++J [w]) (pre.length+w.length) endT,?_,?_,rfl⟩
  ·have h2:qb8 (pre++J [w]) (f+1) (pre.length+w.length)=(some [atP (pre++J [w]) (pre.length+w.length) endT],0):=by
    rw[qb8,hend]
    have:gapS false ([]:Str)=0:=rfl
    rw[this,ww,if_pos hlen.symm]
   rw[qb8,hd,hg,ww,if_neg (by rw[hlen];omega),hd,hx]
   simp only[if_true]
   have ht:(tokW w).text=w:=rfl
   rw[ht,h2];rfl
  ·simp only[wi,wm,qvu _ _ _ (qxk w)];rfl
 |w::v::r,pre,f,_,ho,hf=>by
  have hw:=ho w (by simp)
  obtain⟨f,rfl⟩:∃g,f=g+1:=⟨f-1,by simp at hf;omega⟩
  have hJ:J (w::v::r)=w++32::J (v::r):=qjd w _ (by simp)
  have hd:(pre++J (w::v::r)).drop pre.length=w++32::J (v::r):=by rw[wt,hJ]
  have hne:w≠[]:=(qmy hw).1
  have hg:=qla hw (r:=32::J (v::r)) (.inr ⟨_,rfl⟩)
  have hx:=qug hw (r:=32::J (v::r)) (.inr ⟨_,rfl⟩)
  have hlen:(pre++J (w::v::r)).length=pre.length+(w.length+((J (v::r)).length+1)):=by rw[wj,hJ,wj,wc]
  obtain⟨l,e,h1,h2,h3⟩:=qra (v::r) (pre++w++[32]) f (by simp) (fun z hz=>ho z (by simp[hz])) (by simp at hf ⊢;omega)
  have hpre:pre++w++[32]++J (v::r)=pre++J (w::v::r):=by rw[hJ];simp
  rw[hpre]at h1
  have hv:=ho v (by simp)
  have hgv:gapS false (J (v::r))=0:=by
   cases r with
   |nil=>have:=qla hv (r:=[]) (.inl rfl);rwa [wz]at this
   |cons y r=>rw[qjd v _ (by simp)];exact qla hv (.inr ⟨_,rfl⟩)
  have hd2:(pre++J (w::v::r)).drop (pre.length+w.length)=32::J (v::r):=by
   rw[←wca,wt,hJ,wt]
  have hd3:(pre++J (w::v::r)).drop (pre.length+w.length+1)=J (v::r):=by
   rw[←wca,hd2];rfl
  have hsame:qb8 (pre++J (w::v::r)) f (pre.length+w.length)=qb8 (pre++J (w::v::r)) f (pre++w++[32]).length:=by
   have hl2:(pre++w++[32]).length=pre.length+w.length+1:=by simp;omega
   rw[hl2]
   cases f with
   |zero=>simp at hf
   |succ f=>
    have hg1:gapS false ((pre++J (w::v::r)).drop (pre.length+w.length))=1:=by
     rw[hd2]
     show(if qe5 ((32:UInt8).toNat:Nat)=true then 1+gapS false (J (v::r))else _)=1
     rw[if_pos (by decide),hgv]
    have hg2:gapS false ((pre++J (w::v::r)).drop (pre.length+w.length+1))=0:=by rw[hd3,hgv]
    rw[qb8,qb8,hg1,hg2,ww]
  have hwl:w.length≠0:=fun e=>hne (wq e)
  refine⟨atP (pre++J (w::v::r)) pre.length (tokW w)::l,e,?_,?_,h3⟩
  ·rw[qb8,hd,hg,ww,if_neg (by rw[hlen];omega),hd,hx]
   simp only[if_true]
   have ht:(tokW w).text=w:=rfl
   rw[ht,hsame,h1];rfl
  ·simp only[wi,qvu _ _ _ (qxk w),h2];rfl
end Go.Ab
namespace Go.Ab
open Go Go.Ab.Tab
theorem ql5 {n:Nat} {v v':AVal} {h:qab} {d:List Nat} (hd:∀x∈d,n≤x) (hr:refs (strip3 v)=[]) (hv:strip3 v=v'):some (CR.ret (qbf n v h d).1 (qbf n v h d).2)=some (CR.ret v' .same):=by
 rw[qa3 n v h d hd hr,hv]
theorem token_c (text:Str) (hT:text.length≤65536) (k:Nat) (hk:k<text.length):C 128 [.ptr 0 0] [.box (qc8 text k)]=
 some (.ret (.tuple [.agg (atP text k (lexT (text.drop k)).1).cells,.bool (lexT (text.drop k)).2]) .same):=by
 have c1:qah C [.box [.str text,.int .i64 k,.int .i64 (plc (text.take k)).1,.int .i64 (plc (text.take k)).2],.box [.int .i64 0,.str [],.int .i64 0,.int .i64 0,.int .i64 0]] 186 [.ptr 0 0]=some (.ret (.str (text.drop k)) .same):=
  qc7 (c:=C) (b:=0) (H:=[.box (qc8 text k),.box noTok.cells]) (rest:=[]) rfl rfl rfl (rest_c text hT k (by omega)) rfl
 obtain⟨c,r,hcr⟩:∃c r,text.drop k=c::r:=by
  cases h:text.drop k with
  |nil=>
   have:=congrArg List.length h
   rw[we]at this;simp at this;omega
  |cons c r=>exact⟨c,r,rfl⟩
 have hl:(c::r).length≤65536:=by rw[←hcr,we];omega
 rw[hcr]at c1 ⊢
 have i0:(c::r)[0]? =some c:=rfl
 have d1:=qx3 c.toNat
 have d2:=qx2 c.toNat
 have d3:=qt5 c.toNat
 have hsc:qc8 text k=[.str text,.int .i64 k,.int .i64 (plc (text.take k)).1,.int .i64 (plc (text.take k)).2]:=rfl
 rw[hsc]
 obtain⟨q,hq⟩:∃q,q=lexT (c::r):=⟨_,rfl⟩
 rw[←hq]
 have hcl:q.1.cells=[.int .i64 q.1.sort,.str q.1.text,.int .i64 q.1.n,.int .i64 q.1.line,.int .i64 q.1.col]:=rfl
 have hat:(atP text k q.1).cells=[.int .i64 q.1.sort,.str q.1.text,.int .i64 q.1.n,.int .i64 (plc (text.take k)).1,.int .i64 (plc (text.take k)).2]:=rfl
 rw[hat]
 cases hd:qby c.toNat
 ·cases hlo:qdm c.toNat
  ·cases hu:qc4 c.toNat
   ·have e:lexT (c::r)=qhu (c::r):=by simp only[lexT,hd,hlo,hu];rfl
    have s1:=sign_c (c::r) hl
    rw[←e,←hq,hcl]at s1
    rw[C_fn rfl Tryz.func128 rfl (by kernel_rfl) (m:=40) rfl];simp only[Z3,simprocAttr,Tryz.f128,qwx,ty,c1,i0,d1 _,d2 _,d3 _,hd,hlo,hu,s1 _]
    exact ql5 (by simp[Eff.dirt]) rfl rfl
   ·have e:lexT (c::r)=(qkz (c::r),decide ((qco (c::r)).length≤24)):=by simp only[lexT,hd,hlo,hu];rfl
    have s1:Ret C 196 [.str (c::r)] (.tuple [.agg (lexT (c::r)).1.cells,.bool (lexT (c::r)).2]):=by rw[e];exact qxj c r (by unfold qa5;rw[hlo,hu];rfl) hl
    rw[←hq,hcl]at s1
    rw[C_fn rfl Tryz.func128 rfl (by kernel_rfl) (m:=40) rfl];simp only[Z3,simprocAttr,Tryz.f128,qwx,ty,c1,i0,d1 _,d2 _,d3 _,hd,hlo,hu,s1 _]
    exact ql5 (by simp[Eff.dirt]) rfl rfl
  ·have e:lexT (c::r)=(qkz (c::r),decide ((qco (c::r)).length≤24)):=by simp only[lexT,hd,hlo];rfl
   have s1:Ret C 196 [.str (c::r)] (.tuple [.agg (lexT (c::r)).1.cells,.bool (lexT (c::r)).2]):=by rw[e];exact qxj c r (by unfold qa5;rw[hlo];rfl) hl
   rw[←hq,hcl]at s1
   rw[C_fn rfl Tryz.func128 rfl (by kernel_rfl) (m:=40) rfl];simp only[Z3,simprocAttr,Tryz.f128,qwx,ty,c1,i0,d1 _,d2 _,hd,hlo,s1 _]
   exact ql5 (by simp[Eff.dirt]) rfl rfl
 ·have e:lexT (c::r)=(numT (c::r),qq9 (c::r)):=by simp only[lexT,hd];rfl
  have s1:Ret C 193 [.str (c::r)] (.tuple [.agg (lexT (c::r)).1.cells,.bool (lexT (c::r)).2]):=by rw[e];exact number_c c r hd hl
  rw[←hq,hcl]at s1
  rw[C_fn rfl Tryz.func128 rfl (by kernel_rfl) (m:=40) rfl];simp only[Z3,simprocAttr,Tryz.f128,qwx,ty,c1,i0,d1 _,hd,s1 _]
  exact ql5 (by simp[Eff.dirt]) rfl rfl
theorem quh {s:Str} (h:(lexT s).2=true):1≤(lexT s).1.text.length∧(lexT s).1.text.length≤s.length:=by
 cases s with
 |nil=>cases h
 |cons c r=>
  cases hd:qby c.toNat
  ·cases hl:(qdm c.toNat||qc4 c.toNat)
   ·have e:lexT (c::r)=qhu (c::r):=by simp only[lexT,hd,hl];rfl
    rw[e]at h ⊢
    unfold qhu at h ⊢
    split at h
    ·rename_i x hx
     have h1:=List.find?_some hx
     have h2:=List.mem_of_find?_eq_some hx
     unfold preB at h1
     simp only[wb,decide_eq_true_eq]at h1
     have:∀x∈signL',1≤x.length:=by decide
     exact⟨this x h2,h1.1⟩
    ·cases h
   ·have e:lexT (c::r)=(qkz (c::r),decide ((qco (c::r)).length≤24)):=by simp only[lexT,hd,hl];rfl
    rw[e]
    have hin:qa5 c.toNat=true:=by unfold qa5;rw[hl];rfl
    show 1≤(qco (c::r)).length∧(qco (c::r)).length≤_
    rw[qs2]
    refine⟨?_,qg4 _ _⟩
    simp only[qa1,hin,if_true];omega
  ·have e:lexT (c::r)=(numT (c::r),qq9 (c::r)):=by simp only[lexT,hd];rfl
   rw[e]
   show 1≤(numD (c::r)).length∧(numD (c::r)).length≤_
   rw[qvt]
   refine⟨?_,qg4 _ _⟩
   simp only[qa1,hd,if_true];omega
theorem qui (b:Bool) (s:Str):gapS b s≤s.length:=by
 induction s generalizing b with
 |nil=>cases b<;>exact w8 _
 |cons c r ih=>
  have h1:=ih true
  have h2:=ih false
  cases b
  ·simp only[gapS,wc]
   split
   ·omega
   ·split<;>omega
  ·simp only[gapS,wc]
   split<;>omega
theorem qzk (text:Str):∀(f g k:Nat),text.length+1≤f+k→text.length+1≤g+k→k≤text.length→qb8 text f k=qb8 text g k:=by
 intro f
 induction f with
 |zero=>intro g k h1 _ h3;omega
 |succ f ih=>
  intro g k h1 h2 h3
  cases g with
  |zero=>omega
  |succ g=>
   have hg:=qui false (text.drop k)
   rw[we]at hg
   rw[qb8,qb8]
   by_cases he:k+gapS false (text.drop k)=text.length
   ·rw[if_pos he,if_pos he]
   ·rw[if_neg he,if_neg he]
    by_cases hx:(lexT (text.drop (k+gapS false (text.drop k)))).2=true
    ·obtain⟨l1,l2⟩:=quh hx
     rw[we]at l2
     rw[if_pos hx,if_pos hx,ih g _ (by omega) (by omega) (by omega)]
    ·rw[if_neg hx,if_neg hx]
end Go.Ab
namespace Go.Ab
open Go Go.Ab.Tab
def qyf (text:Str):Nat→PFault:=fun k=>⟨2,(plc (text.take k)).1,(plc (text.take k)).2⟩
def qgz (text:Str):AVal:=
 if 65536<text.length then .tuple [.slice [] .free,.agg (PFault.cells ⟨9,0,0⟩)]
 else match qb8 text (text.length+1) 0 with
  |(some l,_)=> .tuple [.slice (l.map PTok.cells) .free,.agg (PFault.cells ⟨0,0,0⟩)]
  |(none,k)=> .tuple [.slice [] .free,.agg (qyf text k).cells]
def qmt (text:Str) (acc:List PTok) (k:Nat):Option (List PTok)×Nat:=match qb8 text (text.length+1) k with
 |(some l,_)=>(some (acc++l),0)
 |(none,p)=>(none,p)
theorem scan_big (text:Str) (hT:65536<text.length) (hl:text.length≤qac):Ret C 73 [.str text] (qgz text):=by
 refine Ret.mk rfl (by unfold qgz;rw[if_pos hT];rfl) ?_
 unfold qgz
 rw[if_pos hT]
 have h1:decide ((65536:Int)<(text.length:Int))=true:=decide_eq_true (by omega)
 rw[C_fn rfl Tryz.func73 rfl (by kernel_rfl) (m:=61) rfl];simp only[Z3,simprocAttr,Tryz.f73,qt3,ty,hl,h1]
 exact ql5 (by simp[Eff.dirt]) rfl rfl
theorem tok5 (l:List PTok):∀c∈l.map PTok.cells,c.length=5:=by
 intro c hc
 obtain⟨t,_,rfl⟩:=w7.1 hc
 rfl
theorem q19 {h:qab} {v:AVal} {es:List (List AVal)} {T:TypeId} (g:Grow h v es T) {b:Nat} {x y:List AVal} (hb:h[b]? =some (.box x)):Grow (h.set b (.box y)) v es T:=by
 rcases g with g|⟨t,hv,ht⟩
 ·exact .inl g
 ·refine .inr ⟨t,hv,?_⟩
  have hne:b≠t:=fun e=>by rw[e,ht]at hb;cases hb
  rw[wo hne];exact ht
theorem qxl (text:Str) (hT:text.length≤65536):Ret C 73 [.str text] (qgz text):=by
 have hv:refs (qgz text)=[]:=by
  unfold qgz;split
  ·rfl
  ·split<;>rfl
 refine Ret.mk rfl hv ?_
 have h1:decide ((65536:Int)<(text.length:Int))=false:=decide_eq_false (by omega)
 have hl0:text.length≤qac:=by unfold qac;omega
 have hs0:[AVal.str text,.int .i64 0,.int .i64 1,.int .i64 1]=qc8 text 0:=by unfold qc8;rw[List.take_zero];rfl
 rw[C_fn rfl Tryz.func73 rfl (by kernel_rfl) (m:=61) rfl];simp only[Z3,simprocAttr,Tryz.f73,qt3,ty,hl0,h1]
 rw[hs0]
 generalize hb:qam PP cmp0 C lpC _=f;generalize hl:lpC f _=r
 obtain⟨ex,s',rfl,h2⟩:=qd0 (α:=Nat×List PTok×AVal) hl [2,6,7,15,16,17,18,19,20,21,22,23,24,25,26,27,28,29,30,31,32,33,34,35,36,37,38,39,40,41,42,43,44,45,46,47,48,49,50,51,52,53,54,55,56,57,58,59,60,61] (fun a=>[(5,a.2.2)]) (fun a h=>h[0]? =some (.box (PFault.cells ⟨0,0,0⟩))∧h[1]? =some (.box (qc8 text a.1))∧Grow h a.2.2 (a.2.1.map PTok.cells) 84∧a.1≤text.length∧a.2.1.length≤a.1) (fun a=>text.length-a.1) (fun a=>qmt text a.2.1 a.1)
  (fun ts r ex s=>ex= .ret∧∃es tk fl,s.tmps[2]? =some (.slice es tk)∧s.tmps[3]? =some (.ptr 0 0)∧s.heap[0]? =some (.box (PFault.cells fl))∧es=(match r.1 with|some l=>l.map PTok.cells|none=>[])∧fl=(match r.1 with|some _=>⟨0,0,0⟩|none=>qyf text r.2)) (0,[],.slice [] .full) ⟨rfl,rfl,.inl ⟨rfl,rfl⟩,Nat.zero_le _,w8 _⟩ (by simp only[AtT,ats,w9]) (by
   rintro⟨k,acc,v⟩ j h d ⟨q0,q1,hg,hk,hacc⟩
   clear hl;subst hb
   simp only at q0 q1 hg hk hacc ⊢
   obtain⟨E1,hE1,hh1⟩:=qd4 qay (b:=1) (H:=h) (rest:=[]) rfl q1 rfl rfl (blanks_c text hT k hk) rfl
   obtain⟨k1,hk1⟩:∃k1,k1=k+gapS false (text.drop k):=⟨_,rfl⟩
   rw[←hk1]at hh1
   have hk1l:k1≤text.length:=by have:=qui false (text.drop k);rw[we]at this;omega
   have l1:=(wa.1 q1).1
   obtain⟨g1,hg1⟩:∃g1,g1=h.set 1 (.box (qc8 text k1)):=⟨_,rfl⟩
   rw[←hg1]at hh1
   have p0:g1[0]? =some (.box (PFault.cells ⟨0,0,0⟩)):=by rw[hg1,wo (by decide)];exact q0
   have p1:g1[1]? =some (.box (qc8 text k1)):=by rw[hg1,wh l1]
   have p1':g1[1]? =some (.box [.str text,.int .i64 k1,.int .i64 (plc (text.take k1)).1,.int .i64 (plc (text.take k1)).2]):=p1
   have gg1:=q19 (y:=qc8 text k1) hg q1
   rw[←hg1]at gg1
   have hlen:decide (1<g1.length)=true:=decide_eq_true (wa.1 p1).1
   have hlen0:decide (0<g1.length)=true:=decide_eq_true (wa.1 p0).1
   by_cases he:k1=text.length
   ·have he':((k1:Int)==(text.length:Int))=true:=by rw[he];exact beq_self_eq_true _
    obtain⟨v1,E2,ha1,hg2,hB2⟩:=q1k qln (fs:=[[.int .i64 6,.str [],.int .i64 0,.int .i64 (plc (text.take k1)).1,.int .i64 (plc (text.take k1)).2]]) gg1 (by simp;unfold qac;omega) (tok5 acc) (by intro c hc;simp only[wg,wd,or_false]at hc;subst hc;rfl) (by simp)
    have r0:=hB2 _ _ p0
    have hden:qmt text acc k=(some (acc++[atP text k1 endT]),0):=by
     unfold qmt
     rw[qb8,←hk1,if_pos he]
    obtain⟨tk,hv1⟩:∃tk,v1= .slice (acc.map PTok.cells++[[.int .i64 6,.str [],.int .i64 0,.int .i64 (plc (text.take k1)).1,.int .i64 (plc (text.take k1)).2]]) tk:=by
     rcases hg2 with⟨h1,_⟩|⟨t,h1,_⟩
     ·simp at h1
     ·exact⟨_,h1⟩
    have z0:∀(H:qab) (x y:List AVal),H[0]? =some (.box x)→(H.set 0 (.box y))[0]? =some (.box y):=fun H x y h=>wh (wa.1 h).1
    simp only[Z3,simprocAttr,effs,qt3,ty,hE1,hh1,p1',hl0,he',hlen,hlen0,ha1,r0,hden]
    refine .inr ⟨_,_,rfl,by simp,rfl,_,tk,⟨0,0,0⟩,by rw[hv1];rfl,rfl,z0 _ _ _ r0,?_,rfl⟩
    simp only[waa];rfl
   ·have he':((k1:Int)==(text.length:Int))=false:=by simp;omega
    obtain⟨q,hq⟩:∃q,q=lexT (text.drop k1):=⟨_,rfl⟩
    have tkc:=qc7 (c:=C) (b:=1) (H:=g1) (rest:=[]) rfl p1 rfl (token_c text hT k1 (by omega)) rfl
    rw[←hq]at tkc
    have hat:(atP text k1 q.1).cells=[.int .i64 q.1.sort,.str q.1.text,.int .i64 q.1.n,.int .i64 (plc (text.take k1)).1,.int .i64 (plc (text.take k1)).2]:=rfl
    rw[hat]at tkc
    obtain⟨tc,htc⟩:∃tc,tc=[AVal.int .i64 q.1.sort,.str q.1.text,.int .i64 q.1.n,.int .i64 (plc (text.take k1)).1,.int .i64 (plc (text.take k1)).2]:=⟨_,rfl⟩
    obtain⟨G,hG⟩:∃G,G=g1++[Blk.box [AVal.int .i64 q.1.sort,.str q.1.text,.int .i64 q.1.n,.int .i64 (plc (text.take k1)).1,.int .i64 (plc (text.take k1)).2]]:=⟨_,rfl⟩
    have G0:G[0]? =some (.box (PFault.cells ⟨0,0,0⟩)):=by rw[hG];exact Boxes.app _ _ _ _ p0
    have G1:G[1]? =some (.box [.str text,.int .i64 k1,.int .i64 (plc (text.take k1)).1,.int .i64 (plc (text.take k1)).2]):=by rw[hG];exact Boxes.app _ _ _ _ p1'
    have Gt:G[g1.length]? =some (.box [AVal.int .i64 q.1.sort,.str q.1.text,.int .i64 q.1.n,.int .i64 (plc (text.take k1)).1,.int .i64 (plc (text.take k1)).2]):=by rw[hG];simp
    have Gl:G.length=g1.length+1:=by rw[hG];simp
    have gG:=gg1.app [Blk.box [AVal.int .i64 q.1.sort,.str q.1.text,.int .i64 q.1.n,.int .i64 (plc (text.take k1)).1,.int .i64 (plc (text.take k1)).2]]
    rw[←hG]at gG
    cases hok:q.2
    ·have hden:qmt text acc k=(none,k1):=by
      unfold qmt
      rw[qb8,←hk1,if_neg he,←hq,hok,if_neg (by decide)]
     have z0:∀(H:qab) (x y:List AVal),H[0]? =some (.box x)→(H.set 0 (.box y))[0]? =some (.box y):=fun H x y h=>wh (wa.1 h).1
     simp only[Z3,simprocAttr,effs,qt3,ty,hE1,hh1,p1',hl0,he',tkc,hok,←hG,G0,G1,Gl,hlen,hlen0,hden]
     refine .inr ⟨_,_,rfl,by simp,rfl,[],.full,qyf text k1,rfl,rfl,z0 _ _ _ G0,rfl,rfl⟩
    ·have hsz:=quh (s:=text.drop k1) (by rw[←hq];exact hok)
     rw[←hq,we]at hsz
     obtain⟨v1,E2,ha1,hg2,hB2⟩:=q1k qln (fs:=[[AVal.int .i64 q.1.sort,.str q.1.text,.int .i64 q.1.n,.int .i64 (plc (text.take k1)).1,.int .i64 (plc (text.take k1)).2]]) gG (by simp;unfold qac;omega) (tok5 acc) (by intro c hc;simp only[wg,wd,or_false]at hc;subst hc;rfl) (by simp)
     have r0:=hB2 _ _ G0
     have r1:=hB2 _ _ G1
     have rt:=hB2 _ _ Gt
     obtain⟨E3,hE3,hh3⟩:=qd4 qay (b:=1) (H:=E2.of G) (rest:=[.int .i64 q.1.text.length]) rfl r1 rfl rfl (skip_c text hT k1 q.1.text.length (by omega)) rfl
     have htl:q.1.text.length≤qac:=by unfold qac;omega
     have hden:qmt text acc k=qmt text (acc++[atP text k1 q.1]) (k1+q.1.text.length):=by
      unfold qmt
      rw[qb8,←hk1,if_neg he,←hq,hok,if_pos rfl,qzk text text.length (text.length+1) (k1+q.1.text.length) (by omega) (by omega) (by omega)]
      cases hs:qb8 text (text.length+1) (k1+q.1.text.length)with
      |mk o p=>cases o<;>simp
     simp only[Z3,simprocAttr,effs,qt3,ty,hE1,hh1,p1',hl0,he',tkc,hok,←hG,G0,G1,Gl,Gt,hlen,hlen0,ha1,rt,htl,hE3,hh3]
     refine .inl ⟨(k1+q.1.text.length,acc++[atP text k1 q.1],v1),_,rfl,⟨?_,?_,?_,by simp only[];omega,by simp only[wj,wc,w6];omega⟩,by simp only[AtT,ats,w9],by simp only[];omega,hden.symm⟩
     ·show((E2.of G).set 1 _)[0]? =_
      rw[wo (by decide)];exact r0
     ·show((E2.of G).set 1 _)[1]? =_
      exact wh (wa.1 r1).1
     ·have hm:(acc++[atP text k1 q.1]).map PTok.cells=acc.map PTok.cells++[[AVal.int .i64 q.1.sort,.str q.1.text,.int .i64 q.1.n,.int .i64 (plc (text.take k1)).1,.int .i64 (plc (text.take k1)).2]]:=by rw[waa];rfl
      show Grow ((E2.of G).set 1 _) v1 ((acc++[atP text k1 q.1]).map PTok.cells) _
      rw[hm]
      exact q19 hg2 r1)
 obtain⟨rfl,es,tk,fl,t2,t3,q0,rfl,rfl⟩:=h2
 clear hl
 simp only[Z3,simprocAttr,effs,qt3,ty,t2,t3,q0]
 rw[qd6 _ _ _ rfl,qd7 _ _ _ rfl]
 unfold qgz qmt
 rw[if_neg (by omega)]
 cases hs:qb8 text (text.length+1) 0 with
 |mk o p=>cases o<;>rfl
end Go.Ab
namespace Go.Ab
open Go Go.Ab.Tab
def qgl:List AVal:=[.int .i64 0,.int .i64 0,.int .i64 0]
theorem qxm:Ret C 75 [.nili] (.agg qgl):=by
 refine Ret.mk rfl rfl ?_
 rw[C_fn rfl Tryz.func75 rfl (by kernel_rfl) (m:=17) rfl];simp only[Z3,simprocAttr,Tryz.f75,fx_75]
 exact qdo (by simp[Eff.dirt]) rfl rfl
theorem readP_c (text:Str) (hT:text.length≤65536) {l ts':List PTok} {k:Nat} {p:PProg} (hs:qb8 text (text.length+1) 0=(some l,k)) (g:qbk C 37 [.ptr 0 0] [.box (pbox l 0)] (.agg p.cells) [.box (pbox ts' 0)]):
 fnF PP cmp0 C lpC 36 [.str text,.func 37 [] []] []=some (.ret (.tuple [.agg p.cells,.agg qgl]) .same):=by
 have hsc:=qxl text hT
 have hv:qgz text= .tuple [.slice (l.map PTok.cells) .free,.agg (PFault.cells ⟨0,0,0⟩)]:=by unfold qgz;rw[if_neg (by omega),hs]
 rw[hv]at hsc
 have hf0:PFault.cells ⟨0,0,0⟩=[.int .i64 0,.int .i64 0,.int .i64 0]:=rfl
 rw[hf0]at hsc
 obtain⟨E,hE,hh⟩:=qd4 (c:=C) (v:= .agg p.cells) (x:=pbox l 0) (y:=pbox ts' 0) qay (b:=2) (H:=[.box [.slice [] .full,.slice [] .full],.box [.int .i64 0,.int .i64 0,.int .i64 0],.box (pbox l 0)]) (rest:=[]) rfl rfl (qaa _ _) (qaa _ _) g (by simp only[refs];exact p.norefs)
 have hh2:E.of [.box [.slice [] .full,.slice [] .full],.box [.int .i64 0,.int .i64 0,.int .i64 0],.box (pbox l 0)]=[.box [.slice [] .full,.slice [] .full],.box [.int .i64 0,.int .i64 0,.int .i64 0],.box (pbox ts' 0)]:=hh
 have hE:qah C [.box [.slice [] .full,.slice [] .full],.box [.int .i64 0,.int .i64 0,.int .i64 0],.box [.slice (l.map PTok.cells) .free,.int .i64 0]] 37 [.ptr 2 0]=some (.ret (.agg p.cells) E):=hE
 have hh2:E.of [.box [.slice [] .full,.slice [] .full],.box [.int .i64 0,.int .i64 0,.int .i64 0],.box [.slice (l.map PTok.cells) .free,.int .i64 0]]=[.box [.slice [] .full,.slice [] .full],.box [.int .i64 0,.int .i64 0,.int .i64 0],.box (pbox ts' 0)]:=hh2
 have sp:∀(x0 x1:AVal),qau [x0,x1] 0 p.cells=some p.cells:=fun _ _=>qci (by rw[p.len];rfl)
 apply fnF_go Tryz.func36 rfl (m:=22) rfl
 ·apply qfm (by kernel_rfl) (by kernel_rfl)
  ·simp only[Z3,simprocAttr,Tryz.f36,fx_36];rfl
  apply qfm (by kernel_rfl) (by kernel_rfl)
  ·simp only[Z3,simprocAttr,fx_36,hsc _];rfl
  apply qfm (by kernel_rfl) (by kernel_rfl)
  ·simp only[Z3,simprocAttr,fx_36];rfl
  apply qvp (by kernel_rfl) rfl
  ·simp only[Z3,simprocAttr,effs,fx_36,hE,hh2,sp,p.ones,p.len]
   rfl
  ·rfl
  ·rfl
 ·apply qyc Tryz.func74 rfl (by rfl) (by kernel_rfl) (by kernel_rfl) (m:=7) rfl
  ·simp only[Z3,simprocAttr,fx_74,qxm _];rfl
  ·simp only[Z3,simprocAttr,fx_74];rfl
 ·unfold endF
  rw[show resA PP _ _=some [.agg p.cells,.agg qgl]from ?_]
  ·simp only[w6]
   rw[qg2 _ _ _ (by simp only[qcb,strip3,strip2,wi,wm,p.strip,refs,qad,p.norefs];rfl)]
   simp only[qcb,strip3,strip2,wi,wm,p.strip]
   rfl
  ·simp only[Z3,simprocAttr,Tryz.f36,fx_36,p.len,p.take];rfl
theorem pexprF_c {R:Rd} (hR:HypE R) {ts ts':List PTok} {e:PExpr} (hT:TsOk ts) (h:R 0 1 ts= .ok e ts') (h6:qdt ts'=6):qbk C 49 [.ptr 0 0] [.box (pbox ts 0)] (.agg e.cells) [.box (pbox ts' 0)]:=by
 obtain⟨hT',g⟩:=qd1 hR hT h
 obtain⟨t,r,rfl⟩:=hT'.ne
 obtain⟨E,e1,e2⟩:=g.m rfl
 have d6:(t.sort !=6)=false:=by have h6:t.sort=6:=h6;rw[h6];rfl
 refine qa9 rfl Tryz.func49 rfl (by kernel_rfl) (m:=12) rfl ?_;simp only[Z3,simprocAttr,Tryz.f49,fx_49,effs,e1,e2,qeb,d6]
 exact qes (ts:=t::r) (d:=0) (.inl rfl) rfl rfl (qh4 e) rfl rfl
theorem readE_c (text:Str) (hT:text.length≤65536) {l ts':List PTok} {k:Nat} {p:PExpr} (hs:qb8 text (text.length+1) 0=(some l,k)) (g:qbk C 49 [.ptr 0 0] [.box (pbox l 0)] (.agg p.cells) [.box (pbox ts' 0)]):
 fnF PP cmp0 C lpC 48 [.str text,.func 49 [] []] []=some (.ret (.tuple [.agg p.cells,.agg qgl]) .same):=by
 have hsc:=qxl text hT
 have hv:qgz text= .tuple [.slice (l.map PTok.cells) .free,.agg (PFault.cells ⟨0,0,0⟩)]:=by unfold qgz;rw[if_neg (by omega),hs]
 rw[hv]at hsc
 have hf0:PFault.cells ⟨0,0,0⟩=[.int .i64 0,.int .i64 0,.int .i64 0]:=rfl
 rw[hf0]at hsc
 obtain⟨E,hE,hh⟩:=qd4 (c:=C) (v:= .agg p.cells) (x:=pbox l 0) (y:=pbox ts' 0) qay (b:=2) (H:=[.box [.int .i64 0,.str [],.int .i64 0,.slice [] .full,.slice [] .full],.box [.int .i64 0,.int .i64 0,.int .i64 0],.box (pbox l 0)]) (rest:=[]) rfl rfl (qaa _ _) (qaa _ _) g (by simp only[refs];exact p.norefs)
 have hh2:E.of [.box [.int .i64 0,.str [],.int .i64 0,.slice [] .full,.slice [] .full],.box [.int .i64 0,.int .i64 0,.int .i64 0],.box (pbox l 0)]=[.box [.int .i64 0,.str [],.int .i64 0,.slice [] .full,.slice [] .full],.box [.int .i64 0,.int .i64 0,.int .i64 0],.box (pbox ts' 0)]:=hh
 have hE:qah C [.box [.int .i64 0,.str [],.int .i64 0,.slice [] .full,.slice [] .full],.box [.int .i64 0,.int .i64 0,.int .i64 0],.box [.slice (l.map PTok.cells) .free,.int .i64 0]] 49 [.ptr 2 0]=some (.ret (.agg p.cells) E):=hE
 have hh2:E.of [.box [.int .i64 0,.str [],.int .i64 0,.slice [] .full,.slice [] .full],.box [.int .i64 0,.int .i64 0,.int .i64 0],.box [.slice (l.map PTok.cells) .free,.int .i64 0]]=[.box [.int .i64 0,.str [],.int .i64 0,.slice [] .full,.slice [] .full],.box [.int .i64 0,.int .i64 0,.int .i64 0],.box (pbox ts' 0)]:=hh2
 have sp:∀(x0 x1 x2 x3 x4:AVal),qau [x0,x1,x2,x3,x4] 0 p.cells=some p.cells:=fun _ _ _ _ _=>qci (by rw[p.len];rfl)
 apply fnF_go Tryz.func48 rfl (m:=22) rfl
 ·apply qfm (by kernel_rfl) (by kernel_rfl)
  ·simp only[Z3,simprocAttr,Tryz.f48,qia];rfl
  apply qfm (by kernel_rfl) (by kernel_rfl)
  ·simp only[Z3,simprocAttr,qia,hsc _];rfl
  apply qfm (by kernel_rfl) (by kernel_rfl)
  ·simp only[Z3,simprocAttr,qia];rfl
  apply qvp (by kernel_rfl) rfl
  ·simp only[Z3,simprocAttr,effs,qia,hE,hh2,sp,p.ones,p.len]
   rfl
  ·rfl
  ·rfl
 ·apply qyc Tryz.func98 rfl (by rfl) (by kernel_rfl) (by kernel_rfl) (m:=7) rfl
  ·simp only[Z3,simprocAttr,fx_98,qxm _];rfl
  ·simp only[Z3,simprocAttr,fx_98];rfl
 ·unfold endF
  rw[show resA PP _ _=some [.agg p.cells,.agg qgl]from ?_]
  ·simp only[w6]
   rw[qg2 _ _ _ (by simp only[qcb,strip3,strip2,wi,wm,p.strip,refs,qad,p.norefs];rfl)]
   simp only[qcb,strip3,strip2,wi,wm,p.strip]
   rfl
  ·simp only[Z3,simprocAttr,Tryz.f48,qia,p.len,p.take];rfl
end Go.Ab
namespace Go.Ab
open Go Go.Ab.Tab
section
variable {P:Program} {cmp:Nat→FuncId→List AVal→qab→Option Int} {call:FuncId→List AVal→qab→Option CR}
end
def faultC (e:Int):List PTok→List AVal
 |t::_=>[.int .i64 e,.int .i64 t.line,.int .i64 t.col]
 |[]=>[.int .i64 e,.int .i64 0,.int .i64 0]
theorem qs3 (e:Int) (ts:List PTok):qb0 e ts= .iface 29 (.agg (faultC e ts)):=by cases ts<;>rfl
theorem caught_f (a b c:Int):Ret C 75 [.iface 29 (.agg [.int .i64 a,.int .i64 b,.int .i64 c])] (.agg [.int .i64 a,.int .i64 b,.int .i64 c]):=by
 refine Ret.mk rfl rfl ?_
 rw[C_fn rfl Tryz.func75 rfl (by kernel_rfl) (m:=17) rfl];simp only[Z3,simprocAttr,Tryz.f75,fx_75]
 exact qdo (by simp[Eff.dirt]) rfl rfl
end Go.Ab
namespace Go.Ab
open Go Go.Ab.Tab
theorem fnF_gop {P:Program} {cmp} {call} {lp} {f:FuncId} {fn:Func} {c:Code} (hf:P.funcs[f]? =some fn) (hb:fn.body=some c) {args:List AVal} {h:qab} {X:Option CR} {m:Nat} (hm:fn.ntmps-args.length=m) {tm:List AVal} {H5:qab} {d:List Nat} {g:FuncId} {fi ca:List AVal} {v:AVal} {s6:St}
 (h1:qcg P cmp call lp c ⟨args++List.replicate m .undef,h,[]⟩=some (.pan v,⟨tm,H5,d⟩,some (.func g fi ca))) (h2:runF P cmp call lp g (fi++ca) (some v) H5=some s6) (h3:endF P fn h ⟨tm,s6.heap,s6.dirty++d⟩=X):
 fnF P cmp call lp f args h=X:=by
 subst hm
 rw[fnF_pan hf hb h1 h2];exact h3
theorem q3h {c:Call} (hkeep:qa7 c) {H:qab} {f:FuncId} {args:List AVal} {v:AVal} (idx:List Nat) (hidx:qbq H 256 (qad args) []=idx) (hnd:idx.Nodup) (hok:qcz H idx args=true)
 (g:Pans c f (renL (fun x=>idx.idxOf x) args) (subH H idx) v) (hv:refs v=[]):∃e:Eff,qah c H f args=some (.pan v e)∧∀b,b<H.length→b∉idx→(e.of H)[b]? =H[b]? :=by
 obtain⟨e,h2⟩:=g
 refine⟨qgf H idx e,?_,fun b h3 h4=>(qjr (qk3 hnd hok).1 (hkeep _ _ _ _ h2).1).out b h3 h4⟩
 unfold qah
 simp only[hidx]
 rw[if_pos hok,h2]
 simp only
 rw[qfu v (by rw[hv];simp)]
end Go.Ab
namespace Go.Ab
open Go Go.Ab.Tab
end Go.Ab
