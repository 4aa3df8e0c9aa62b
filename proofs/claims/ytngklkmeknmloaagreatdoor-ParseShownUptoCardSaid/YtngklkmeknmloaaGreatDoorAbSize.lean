/- The parser's small methods: what stands next, a step, a word that is taken. -/
import Derived.Test.YtngklkmeknmloaaGreatDoorAbBase
import Derived.Test.YtngklkmeknmloaaGreatDoorAbTypes
import Derived.Test.YtngklkmeknmloaaGreatDoorAbBox
import Derived.Test.YtngklkmeknmloaaGreatDoorAbObj
set_option linter.unusedSimpArgs false
set_option linter.unusedVariables false
set_option maxRecDepth 100000
set_option maxHeartbeats 4000000
open Go.Proofs
open Int renaming natCast_zero→wa
open List renaming drop_eq_getElem_cons→wb,drop_eq_nil_of_le→wc,getElem_mem→wd,drop_left→we,drop_zero→wf,drop_length→wh,append_nil→wi,length_cons→wq,any_cons→wv,map_cons→ww
open Nat renaming zero_le→wg,lt_one_iff→wk,le_of_not_lt→wo
open Bool renaming false_and→wj,true_and→wm,and_eq_true→wt,and_false→wu
namespace Go.Ab
open Go Go.Ab.Tab
mutual
def PExpr.size:PExpr→Int
 | .mk _ _ _ _ ks=>sizeL ks 1
def sizeL:List PExpr→Int→Int
 |[],a=>a
 |k::r,a=>sizeL r (wadd a k.size)
end
def imax (a b:Int):Int:=if a<b then b else a
mutual
def PExpr.depth:PExpr→Int
 | .mk _ _ _ _ ks=>wadd (qm4 ks 0) 1
def qm4:List PExpr→Int→Int
 |[],a=>a
 |k::r,a=>qm4 r (imax a k.depth)
end
theorem size_c (e:PExpr) (hsm:e.Small):Ret C 25 [.agg e.cells] (.int .i64 e.size):=by
 induction e using PExpr.induct with
 |h op name n cons ks ih=>
 obtain⟨hkl,hks⟩:=hsm.kids
 simp only[PExpr.kids]at hkl hks
 refine Ret.mk (by simp[qad,qol (PExpr.ok _)]) rfl ?_
 rw[C_fn rfl Tryz.func25 rfl (by kernel_rfl) (m:=18) rfl];simp only[Z3,simprocAttr,Tryz.f25,fx_25,PExpr.kids]
 generalize hb:qan PP cmp0 C lpC _=f;generalize hl:lpC f _=r
 obtain⟨ex,s',rfl,rfl,h2⟩:=qeo (α:=Nat×Int) hl [5,10,11,12,13,14,15,16,17] (fun a=>[(3,.int .i64 a.2),(9,.int .i64 a.1)]) (fun a=>a.1≤ks.length) (fun a=>ks.length-a.1) (fun a=>sizeL (ks.drop a.1) a.2)
  (fun ts H r ex s=>ex= .exit 0∧At [5,9,10,11,12,13,14,15,16,17] ts H [(3,.int .i64 r)] s) (0,1) (wg _) (by simp only[At,ats,wa]) (by
   rintro⟨i,a⟩ j H d hi
   clear hl;subst hb
   simp only[Z3,simprocAttr,fx_25]
   by_cases hlt:i<ks.length
   ·have e1:((i:Int)<(ks.length:Int)):=by omega
    have e3:(ks.map PExpr.cells)[i]? =some (ks[i].cells):=by simp[hlt]
    simp only[Z3,simprocAttr,fx_25,e1,e3,qci,(ih ks[i] (wd hlt) (hks _ (wd hlt))) _,qay (show i≤qac by omega)]
    refine .inl ⟨(i+1,wadd a ks[i].size),_,rfl,hlt,by simp only[At,ats,wadd,imax],by simp only[];omega,?_⟩
    simp only[wb hlt,sizeL]
   ·have e1:¬((i:Int)<(ks.length:Int)):=by omega
    simp only[Z3,simprocAttr,fx_25,e1]
    refine .inr ⟨_,_,rfl,by simp,rfl,?_⟩
    simp only[wc (wo hlt),sizeL,At,ats])
 obtain⟨j,H,d,rfl⟩:=h2.elim
 clear hl
 simp only[Z3,simprocAttr]
 simp[PExpr.size,wadd]
theorem depth_c (e:PExpr) (hsm:e.Small):Ret C 22 [.agg e.cells] (.int .i64 e.depth):=by
 induction e using PExpr.induct with
 |h op name n cons ks ih=>
 obtain⟨hkl,hks⟩:=hsm.kids
 simp only[PExpr.kids]at hkl hks
 refine Ret.mk (by simp[qad,qol (PExpr.ok _)]) rfl ?_
 rw[C_fn rfl Tryz.func22 rfl (by kernel_rfl) (m:=19) rfl];simp only[Z3,simprocAttr,Tryz.f22,fx_22,PExpr.kids]
 generalize hb:qan PP cmp0 C lpC _=f;generalize hl:lpC f _=r
 obtain⟨ex,s',rfl,rfl,h2⟩:=qeo (α:=Nat×Int) hl [5,10,11,12,13,14,15,16,17] (fun a=>[(3,.int .i64 a.2),(9,.int .i64 a.1)]) (fun a=>a.1≤ks.length) (fun a=>ks.length-a.1) (fun a=>qm4 (ks.drop a.1) a.2)
  (fun ts H r ex s=>ex= .exit 0∧At [5,9,10,11,12,13,14,15,16,17] ts H [(3,.int .i64 r)] s) (0,0) (wg _) (by simp only[At,ats,wa]) (by
   rintro⟨i,a⟩ j H d hi
   clear hl;subst hb
   simp only[Z3,simprocAttr,fx_22]
   by_cases hlt:i<ks.length
   ·have e1:((i:Int)<(ks.length:Int)):=by omega
    have e3:(ks.map PExpr.cells)[i]? =some (ks[i].cells):=by simp[hlt]
    simp only[Z3,simprocAttr,fx_22,e1,e3,qci,(ih ks[i] (wd hlt) (hks _ (wd hlt))) _,qay (show i≤qac by omega)]
    refine .inl ⟨(i+1,imax a ks[i].depth),_,rfl,hlt,by simp only[At,ats,wadd,imax],by simp only[];omega,?_⟩
    simp only[wb hlt,qm4]
   ·have e1:¬((i:Int)<(ks.length:Int)):=by omega
    simp only[Z3,simprocAttr,fx_22,e1]
    refine .inr ⟨_,_,rfl,by simp,rfl,?_⟩
    simp only[wc (wo hlt),qm4,At,ats])
 obtain⟨j,H,d,rfl⟩:=h2.elim
 clear hl
 simp only[Z3,simprocAttr]
 simp[PExpr.depth,wadd]
end Go.Ab
namespace Go.Ab
open Go Go.Ab.Tab
theorem qjb (l:List Str) (i:Nat) (h:i<l.length):(l.map fun s=>[AVal.str s])[i]? =some [.str l[i]]:=by simp[h]
theorem qr8 {α:Type} [BEq α] (l m:List α) (i:Nat) (h:i<l.length) (h':i<m.length):(l.drop i==m.drop i)=(l[i]==m[i] && l.drop (i+1)==m.drop (i+1)):=by
 rw[wb h,wb h',List.cons_beq_cons]
theorem beq_len {α:Type} [BEq α] [LawfulBEq α] (l m:List α) (h:¬l.length=m.length):(l==m)=false:=by
 simp only[beq_eq_false_iff_ne];intro e;exact h (by rw[e])
def qqy (junk junk':List Nat) (slot:Nat) (ts:List AVal) (H:qab) (r:Bool) (ex:AEx) (s:St):Prop:=
 (r=true∧ex= .exit 0∧At junk ts H [] s)∨(r=false∧ex= .ret∧At junk' ts H [(slot,.bool false)] s)
theorem equal_c (l m:List Str) (hl:l.length≤qac):Ret C 261 [qag l,qag m] (.bool (l==m)):=by
 refine Ret.mk rfl rfl ?_
 by_cases hlen:l.length=m.length
 ·rw[C_fn rfl Tryz.func261 rfl (by kernel_rfl) (m:=24) rfl];simp only[Z3,simprocAttr,Tryz.f261,qye,qag,hlen,bne_self_eq_false]
  generalize hb:qan PP cmp0 C lpC _=f;generalize hl:lpC f _=r
  obtain⟨ex,s',rfl,h2⟩:=qeo (α:=Nat) hl [4,5,14,15,16,17,18,19,20,21,22,23,24,25] (fun i=>[(13,.int .i64 i)]) (fun i=>i≤l.length) (fun i=>l.length-i) (fun i=>l.drop i==m.drop i)
   (qqy [4,5,13,14,15,16,17,18,19,20,21,22,23,24,25] [5,13,14,15,16,17,18,19,20,21,22,23,24,25] 4) 0 (wg _) (by simp only[At,ats,wa]) (by
    intro i j H d hi
    clear hl;subst hb
    by_cases hlt:i<l.length
    ·have e1:((i:Int)<(m.length:Int)):=by omega
     have e3:=qjb l i hlt
     have e4:=qjb m i (by omega)
     simp only[Z3,simprocAttr,qye,e1,e3,e4]
     cases hc:l[i]==m[i]
     ·simp only[Z3,simprocAttr]
      exact .inr ⟨_,_,rfl,by simp,.inr ⟨by simp only[qr8 l m i hlt (by omega),hc,wj],rfl,by simp only[At,ats,wa]⟩⟩
     ·simp only[Z3,simprocAttr,qay (show i≤qac by omega)]
      exact .inl ⟨i+1,_,rfl,hlt,by simp only[At,ats,wa],by simp only[];omega,by simp only[qr8 l m i hlt (by omega),hc,wm]⟩
    ·have e1:¬((i:Int)<(m.length:Int)):=by omega
     simp only[Z3,simprocAttr,qye,e1]
     exact .inr ⟨_,_,rfl,by simp,.inl ⟨by simp only[];rw[wc (by omega),wc (by omega)];rfl,rfl,by simp only[At,ats,wa]⟩⟩)
  rw[wf,wf]at h2
  rcases h2 with⟨hr,rfl,h2⟩|⟨hr,rfl,h2⟩
  ·obtain⟨j,H,d,rfl⟩:=h2.elim
   clear hl
   simp only[Z3,simprocAttr,hr]
  ·obtain⟨j,H,d,rfl⟩:=h2.elim
   clear hl
   simp only[Z3,simprocAttr,hr]
 ·have e0:((l.length:Int) !=(m.length:Int))=true:=by simp;omega
  rw[C_fn rfl Tryz.func261 rfl (by kernel_rfl) (m:=24) rfl];simp only[Z3,simprocAttr,Tryz.f261,qye,qag,e0,beq_len l m hlen]
theorem qis (l m:List Str) (hl:l.length≤qac):Ret C 46 [qag l,qag m] (.bool (l==m)):=by
 refine Ret.mk rfl rfl ?_
 by_cases hlen:l.length=m.length
 ·rw[C_fn rfl Tryz.func46 rfl (by kernel_rfl) (m:=24) rfl];simp only[Z3,simprocAttr,Tryz.f46,fx_46,qag,hlen,bne_self_eq_false]
  generalize hb:qan PP cmp0 C lpC _=f;generalize hl:lpC f _=r
  obtain⟨ex,s',rfl,h2⟩:=qeo (α:=Nat) hl [4,11,12,13,14,15,16,17,18,19,20,21,22,23,24,25] (fun i=>[(5,.int .i64 i)]) (fun i=>i≤l.length) (fun i=>l.length-i) (fun i=>l.drop i==m.drop i)
   (qqy [4,5,11,12,13,14,15,16,17,18,19,20,21,22,23,24,25] [5,11,12,13,14,15,16,17,18,19,20,21,22,23,24,25] 4) 0 (wg _) (by simp only[At,ats,wa]) (by
    intro i j H d hi
    clear hl;subst hb
    by_cases hlt:i<l.length
    ·have e1:((i:Int)<(m.length:Int)):=by omega
     have e3:=qjb l i hlt
     have e4:=qjb m i (by omega)
     simp only[Z3,simprocAttr,fx_46,hlen,e1,e3,e4]
     cases hc:l[i]==m[i]
     ·simp only[Z3,simprocAttr]
      exact .inr ⟨_,_,rfl,by simp,.inr ⟨by simp only[qr8 l m i hlt (by omega),hc,wj],rfl,by simp only[At,ats,wa]⟩⟩
     ·simp only[Z3,simprocAttr,qay (show i≤qac by omega)]
      exact .inl ⟨i+1,_,rfl,by simp only[];omega,by simp only[At,ats,wa],by simp only[];omega,by simp only[qr8 l m i hlt (by omega),hc,wm]⟩
    ·have e1:¬((i:Int)<(m.length:Int)):=by omega
     simp only[Z3,simprocAttr,fx_46,hlen,e1]
     exact .inr ⟨_,_,rfl,by simp,.inl ⟨by simp only[];rw[wc (by omega),wc (by omega)];rfl,rfl,by simp only[At,ats,wa]⟩⟩)
  rw[wf,wf]at h2
  rcases h2 with⟨hr,rfl,h2⟩|⟨hr,rfl,h2⟩
  ·obtain⟨j,H,d,rfl⟩:=h2.elim
   clear hl
   simp only[Z3,simprocAttr,hr]
  ·obtain⟨j,H,d,rfl⟩:=h2.elim
   clear hl
   simp only[Z3,simprocAttr,hr]
 ·have e0:((l.length:Int) !=(m.length:Int))=true:=by simp;omega
  rw[C_fn rfl Tryz.func46 rfl (by kernel_rfl) (m:=24) rfl];simp only[Z3,simprocAttr,Tryz.f46,fx_46,qag,e0,beq_len l m hlen]
mutual
def PExpr.same:PExpr→PExpr→Bool
 | .mk o s n c k,.mk o' s' n' c' k'=>o==o' && s==s' && n==n' && c==c' && qgw k k'
def qgw:List PExpr→List PExpr→Bool
 |[],[]=>true
 |a::r,b::t=>a.same b && qgw r t
 |_,_=>false
end
theorem same_iff (a:PExpr):∀b,a.same b=true↔a=b:=by
 induction a using PExpr.induct with
 |h o s n c k ih=>
  have hl:∀(l:List PExpr),(∀x∈l,x∈k)→∀m,qgw l m=true↔l=m:=by
   intro l
   induction l with
   |nil=>intro _ m;cases m<;>simp[qgw]
   |cons x r ihl=>
    intro hx m
    cases m with
    |nil=>simp[qgw]
    |cons y t=>simp[qgw,ih x (hx x (by simp)) y,ihl (fun z hz=>hx z (by simp[hz])) t]
  intro b
  cases b with
  |mk o' s' n' c' k'=>simp[PExpr.same,hl k (fun _ h=>h) k',and_assoc]
theorem qtw:∀(l m:List PExpr),¬l.length=m.length→qgw l m=false
 |[],[],h=>absurd rfl h
 |[],_::_,_=>by simp[qgw]
 |_::_,[],_=>by simp[qgw]
 |a::r,b::t,h=>by
  simp only[qgw,qtw r t (fun e=>h (by simp[e])),wu]
theorem qnw (l m:List PExpr) (i:Nat) (h:i<l.length) (h':i<m.length):qgw (l.drop i) (m.drop i)=(l[i].same m[i] && qgw (l.drop (i+1)) (m.drop (i+1))):=by
 rw[wb h,wb h',qgw]
theorem qjc (l:List PExpr) (i:Nat) (h:i<l.length):(l.map PExpr.cells)[i]? =some l[i].cells:=by simp[h]
theorem q22 (l m:List PExpr) (hl:l.length≤qac) (hc:∀x∈l,∀y∈m,Ret C 244 [.agg x.cells,.agg y.cells] (.bool (x.same y))):
 Ret C 270 [.slice (l.map PExpr.cells) .free,.slice (m.map PExpr.cells) .free,.func 244 [] []] (.bool (qgw l m)):=by
 refine Ret.mk rfl rfl ?_
 by_cases hlen:l.length=m.length
 ·rw[C_fn rfl Tryz.func270 rfl (by kernel_rfl) (m:=29) rfl];simp only[Z3,simprocAttr,Tryz.f270,qyg,hlen,bne_self_eq_false]
  generalize hb:qan PP cmp0 C lpC _=f;generalize hl0:lpC f _=r
  obtain⟨ex,s',rfl,h2⟩:=qeo (α:=Nat) hl0 [6,7,8,9,18,19,20,21,22,23,24,25,26,27,28,29,30,31] (fun i=>[(17,.int .i64 i)]) (fun i=>i≤l.length) (fun i=>l.length-i) (fun i=>qgw (l.drop i) (m.drop i))
   (qqy [6,7,8,9,17,18,19,20,21,22,23,24,25,26,27,28,29,30,31] [7,8,9,17,18,19,20,21,22,23,24,25,26,27,28,29,30,31] 6) 0 (wg _) (by simp only[At,ats,wa]) (by
    intro i j H d hi
    clear hl0;subst hb
    by_cases hlt:i<l.length
    ·have e1:((i:Int)<(m.length:Int)):=by omega
     have e3:=qjc l i hlt
     have e4:=qjc m i (by omega)
     have e5:=hc l[i] (wd hlt) m[i] (wd (by omega))
     simp only[Z3,simprocAttr,qyg,e1,e3,e4,e5 _]
     cases hcc:l[i].same m[i]
     ·simp only[Z3,simprocAttr]
      exact .inr ⟨_,_,rfl,by simp,.inr ⟨by simp only[qnw l m i hlt (by omega),hcc,wj],rfl,by simp only[At,ats,wa]⟩⟩
     ·simp only[Z3,simprocAttr,qay (show i≤qac by omega)]
      exact .inl ⟨i+1,_,rfl,hlt,by simp only[At,ats,wa],by simp only[];omega,by simp only[qnw l m i hlt (by omega),hcc,wm]⟩
    ·have e1:¬((i:Int)<(m.length:Int)):=by omega
     simp only[Z3,simprocAttr,qyg,e1]
     exact .inr ⟨_,_,rfl,by simp,.inl ⟨by simp only[];rw[wc (by omega),wc (by omega)];simp[qgw],rfl,by simp only[At,ats,wa]⟩⟩)
  rw[wf,wf]at h2
  rcases h2 with⟨hr,rfl,h2⟩|⟨hr,rfl,h2⟩
  ·obtain⟨j,H,d,rfl⟩:=h2.elim
   clear hl0
   simp only[Z3,simprocAttr,hr]
  ·obtain⟨j,H,d,rfl⟩:=h2.elim
   clear hl0
   simp only[Z3,simprocAttr,hr]
 ·have e0:((l.length:Int) !=(m.length:Int))=true:=by simp;omega
  rw[C_fn rfl Tryz.func270 rfl (by kernel_rfl) (m:=29) rfl];simp only[Z3,simprocAttr,Tryz.f270,qyg,e0,qtw l m hlen]
theorem q6p (a:PExpr):∀b,a.Small→Ret C 244 [.agg a.cells,.agg b.cells] (.bool (a.same b)):=by
 induction a using PExpr.induct with
 |h o s n c k ih=>
  intro b ha
  cases b with
  |mk o' s' n' c' k'=>
   obtain⟨hkl,hks⟩:=ha.kids
   have hcs:=ha.cons
   simp only[PExpr.kids]at hkl hks
   simp only[PExpr.cons]at hcs
   refine Ret.mk (by simp[qad,qol (PExpr.ok _)]) rfl ?_
   have e1:=equal_c c c' hcs.1
   have e2:=q22 k k' hkl (fun x hx y _=>ih x hx y (hks x hx))
   rw[C_fn rfl Tryz.func244 rfl (by kernel_rfl) (m:=36) rfl];simp only[Z3,simprocAttr,Tryz.f244,qqt,PExpr.op,PExpr.name,PExpr.n,PExpr.cons,PExpr.kids,PExpr.same]
   cases h1:o==o'
   ·simp only[Z3,simprocAttr,qqt,h1]
   cases h2:s==s'
   ·simp only[Z3,simprocAttr,qqt,h1,h2,PExpr.name]
   cases h3:n==n'
   ·simp only[Z3,simprocAttr,qqt,h1,h2,h3,PExpr.name,PExpr.n]
   cases h4:c==c'
   ·simp only[Z3,simprocAttr,qqt,h1,h2,h3,h4,PExpr.name,PExpr.n,PExpr.cons,e1 _]
   ·simp only[Z3,simprocAttr,qqt,h1,h2,h3,h4,PExpr.name,PExpr.n,PExpr.cons,PExpr.kids,e1 _,e2 _]
theorem qv2 (a:PExpr):∀b,a.Small→b.Small→Ret C 21 [.agg a.cells,.agg b.cells] (.bool (a.same b)):=by
 induction a using PExpr.induct with
 |h o s n c k ih=>
  intro b ha hb0
  cases b with
  |mk o' s' n' c' k'=>
   obtain⟨hkl,hks⟩:=ha.kids
   obtain⟨hkl',hks'⟩:=hb0.kids
   have hcs:=ha.cons
   simp only[PExpr.kids]at hkl hks hkl' hks'
   simp only[PExpr.cons]at hcs
   refine Ret.mk (by simp[qad,qol (PExpr.ok _)]) rfl ?_
   have e1:=qis c c' hcs.1
   rw[C_fn rfl Tryz.func21 rfl (by kernel_rfl) (m:=59) rfl];simp only[Z3,simprocAttr,Tryz.f21,qnu,PExpr.op,PExpr.name,PExpr.n,PExpr.cons,PExpr.kids,PExpr.same]
   cases h1:o==o'
   ·have g1:(o !=o')=true:=by simp[bne,h1]
    simp only[Z3,simprocAttr,qnu,h1,g1]
   have g1:(o !=o')=false:=by simp[bne,h1]
   cases h2:s==s'
   ·simp only[Z3,simprocAttr,qnu,g1,h2,PExpr.name]
   cases h3:n==n'
   ·have g3:(n !=n')=true:=by simp[bne,h3]
    simp only[Z3,simprocAttr,qnu,g1,h2,h3,g3,PExpr.name,PExpr.n]
   have g3:(n !=n')=false:=by simp[bne,h3]
   cases h4:c==c'
   ·simp only[Z3,simprocAttr,qnu,g1,h2,g3,h4,PExpr.name,PExpr.n,PExpr.cons,e1 _]
   by_cases hlen:k.length=k'.length
   ·simp only[Z3,simprocAttr,qnu,h1,g1,h2,h3,g3,h4,PExpr.name,PExpr.n,PExpr.cons,PExpr.kids,e1 _,hlen,bne_self_eq_false]
    generalize hb:qan PP cmp0 C lpC _=f;generalize hl:lpC f _=r
    obtain⟨ex,s',rfl,h2⟩:=qeo (α:=Nat) hl [4,42,43,44,45,46,47,48,49,50,51,52,53,54,55,56,57,58,59,60] (fun i=>[(5,.int .i64 i)]) (fun i=>i≤k.length) (fun i=>k.length-i) (fun i=>qgw (k.drop i) (k'.drop i))
     (qqy [4,5,42,43,44,45,46,47,48,49,50,51,52,53,54,55,56,57,58,59,60] [5,42,43,44,45,46,47,48,49,50,51,52,53,54,55,56,57,58,59,60] 4) 0 (wg _) (by simp only[At,ats,wa]) (by
      intro i j H d hi
      clear hl;subst hb
      by_cases hlt:i<k.length
      ·have e1:((i:Int)<(k.length:Int)):=by omega
       have e3:=qjc k i hlt
       have e4:=qjc k' i (by omega)
       have e5:=ih k[i] (wd hlt) k'[i] (hks _ (wd hlt)) (hks' _ (wd (by omega)))
       simp only[Z3,simprocAttr,qnu,PExpr.kids,e1,e3,e4,e5 _]
       cases hcc:k[i].same k'[i]
       ·simp only[Z3,simprocAttr]
        exact .inr ⟨_,_,rfl,by simp,.inr ⟨by simp only[qnw k k' i hlt (by omega),hcc,wj],rfl,by simp only[At,ats,wa]⟩⟩
       ·simp only[Z3,simprocAttr,qay (show i≤qac by omega)]
        exact .inl ⟨i+1,_,rfl,by simp only[];omega,by simp only[At,ats,wa],by simp only[];omega,by simp only[qnw k k' i hlt (by omega),hcc,wm]⟩
      ·have e1:¬((i:Int)<(k.length:Int)):=by omega
       simp only[Z3,simprocAttr,qnu,PExpr.kids,e1]
       exact .inr ⟨_,_,rfl,by simp,.inl ⟨by simp only[];rw[wc (by omega),wc (by omega)];simp[qgw],rfl,by simp only[At,ats,wa]⟩⟩)
    rw[wf,wf]at h2
    rcases h2 with⟨hr,rfl,h2⟩|⟨hr,rfl,h2⟩
    ·obtain⟨j,H,d,rfl⟩:=h2.elim
     clear hl
     simp only[Z3,simprocAttr,hr]
    ·obtain⟨j,H,d,rfl⟩:=h2.elim
     clear hl
     simp only[Z3,simprocAttr,hr]
   ·have e0:((k.length:Int) !=(k'.length:Int))=true:=by simp;omega
    simp only[Z3,simprocAttr,qnu,g1,h2,g3,h4,PExpr.name,PExpr.n,PExpr.cons,PExpr.kids,e1 _,e0,qtw k k' hlen]
end Go.Ab
namespace Go.Ab
open Go Go.Ab.Tab
def qdj {α:Type} (p:α→α→Bool):List α→List α→Bool
 |[],[]=>true
 |a::r,b::t=>p a b && qdj p r t
 |_,_=>false
theorem qjd {α:Type} (p:α→α→Bool):∀(l m:List α),¬l.length=m.length→qdj p l m=false
 |[],[],h=>absurd rfl h
 |[],_::_,_=>rfl
 |_::_,[],_=>rfl
 |a::r,b::t,h=>by simp only[qdj,qjd p r t (fun e=>h (by simp[e])),wu]
theorem qjr {α:Type} (p:α→α→Bool) (l m:List α) (i:Nat) (h:i<l.length) (h':i<m.length):qdj p (l.drop i) (m.drop i)=(p l[i] m[i] && qdj p (l.drop (i+1)) (m.drop (i+1))):=by
 rw[wb h,wb h',qdj]
def PEnum.same (a b:PEnum):Bool:=a.name==b.name && a.cons==b.cons
def PEq.same (a b:PEq):Bool:=a.names==b.names && a.e.same b.e
def PWay.same (a b:PWay):Bool:=a.to==b.to && a.cond.same b.cond
def PState.same (a b:PState):Bool:=a.name==b.name && (qdj PEq.same a.eqs b.eqs) && (qdj PWay.same a.ways b.ways)
def PItem.same (a b:PItem):Bool:=a.eq.same b.eq && (qdj PState.same a.states b.states)
def PNode.same (a b:PNode):Bool:=a.name==b.name && a.funs==b.funs && a.ins==b.ins && a.outs==b.outs && (qdj PItem.same a.items b.items)
def PProg.same (a b:PProg):Bool:=(qdj PEnum.same a.enums b.enums) && (qdj PNode.same a.nodes b.nodes)
end Go.Ab
namespace Go.Ab
open Go Go.Ab.Tab
def idxP {α:Type} (p:α→Bool):List α→Nat→Int
 |[],_=> -1
 |x::r,i=>if p x then(i:Int)else idxP p r (i+1)
theorem qkp {α:Type} (p:α→Bool):∀(l:List α) (i:Nat),decide (0≤idxP p l i)=l.any p
 |[],i=>by simp[idxP]
 |x::r,i=>by
  by_cases h:p x=true
  ·simp only[idxP,wv,h,if_true,Bool.true_or]
   exact decide_eq_true (Int.natCast_nonneg i)
  ·have h':p x=false:=by simpa using h
   simp only[idxP,wv,h',Bool.false_or]
   exact qkp p r (i+1)
theorem qv3 (l:List Str) (hl:l.length≤qac) (g:FuncId) (fst cap:List AVal) (B:qab) (p:Str→Bool) (hp:∀x∈l,∀H,qai C (B++H) g (fst++(.str x)::cap)=some (.ret (.bool (p x)) .same)):
 C 241 [.slice (l.map (fun s=>[AVal.str s])) .free,.func g fst cap] B=some (.ret (.int .i64 (idxP p l 0)) .same):=by
 rw[C_fn rfl Tryz.func241 rfl (by kernel_rfl) (m:=17) rfl];simp only[Z3,simprocAttr,Tryz.f241,fx_241]
 generalize hb:qan PP cmp0 C lpC _=f;generalize hl0:lpC f _=r
 obtain⟨ex,s',rfl,h2⟩:=qqw (α:=Nat) B.length hl0 [4,5,9,10,11,12,13,14,15,16,17,18] (fun i=>[(8,.int .i64 i)]) (fun i=>i≤l.length) (fun i=>l.length-i) (fun i=>idxP p (l.drop i) i)
  (fun ts H r ex st=>(ex= .exit 0∧r= -1∧AtD B.length [4,5,8,9,10,11,12,13,14,15,16,17,18] ts H [] st)∨(ex= .ret∧AtD B.length [5,8,9,10,11,12,13,14,15,16,17,18] ts H [(4,.int .i64 r)] st)) 0 (wg _) ⟨by simp only[At,ats,wa,wh,wi],by simp⟩ (by
   intro i j H d hi hd
   clear hl0;subst hb
   by_cases hlt:i<l.length
   ·have e1:((i:Int)<(l.length:Int)):=by omega
    have e3:(l.map (fun s=>[AVal.str s]))[i]? =some ((fun s=>[AVal.str s]) l[i]):=by simp[hlt]
    have e5:=hp l[i] (wd hlt)
    simp only[Z3,simprocAttr,fx_241,ty,e1,e3,e5]
    cases hc:p l[i]
    ·simp only[Z3,simprocAttr,qay (show i≤qac by omega)]
     exact .inl ⟨i+1,_,rfl,hlt,⟨by simp only[At,ats,wa,we],hd⟩,by simp only[];omega,by simp only[wb hlt,idxP,hc];rfl⟩
    ·simp only[Z3,simprocAttr]
     exact .inr ⟨_,_,rfl,by simp,.inr ⟨rfl,by simp only[wb hlt,idxP,hc,if_true,At,ats,we],hd⟩⟩
   ·have e1:¬((i:Int)<(l.length:Int)):=by omega
    simp only[Z3,simprocAttr,fx_241,e1]
    exact .inr ⟨_,_,rfl,by simp,.inl ⟨rfl,by simp only[];rw[wc (by omega)];rfl,by simp only[At,ats,wa,we],hd⟩⟩)
 rw[wf]at h2
 rcases h2 with⟨rfl,hr,h2⟩|⟨rfl,h2⟩
 ·obtain⟨j,H,d,hd,rfl⟩:=h2.elim
  clear hl0
  simp only[Z3,simprocAttr,hr,qa2 B.length _ _ d hd,qfs]
 ·obtain⟨j,H,d,hd,rfl⟩:=h2.elim
  clear hl0
  simp only[Z3,simprocAttr,qa2 B.length _ _ d hd,qfs]
theorem q1k (l:List PExpr) (hl:l.length≤qac) (g:FuncId) (fst cap:List AVal) (B:qab) (p:PExpr→Bool) (hp:∀x∈l,∀H,qai C (B++H) g (fst++(.agg x.cells)::cap)=some (.ret (.bool (p x)) .same)):
 C 296 [.slice (l.map PExpr.cells) .free,.func g fst cap] B=some (.ret (.int .i64 (idxP p l 0)) .same):=by
 rw[C_fn rfl Tryz.func296 rfl (by kernel_rfl) (m:=17) rfl];simp only[Z3,simprocAttr,Tryz.f296,fx_296]
 generalize hb:qan PP cmp0 C lpC _=f;generalize hl0:lpC f _=r
 obtain⟨ex,s',rfl,h2⟩:=qqw (α:=Nat) B.length hl0 [4,5,9,10,11,12,13,14,15,16,17,18] (fun i=>[(8,.int .i64 i)]) (fun i=>i≤l.length) (fun i=>l.length-i) (fun i=>idxP p (l.drop i) i)
  (fun ts H r ex st=>(ex= .exit 0∧r= -1∧AtD B.length [4,5,8,9,10,11,12,13,14,15,16,17,18] ts H [] st)∨(ex= .ret∧AtD B.length [5,8,9,10,11,12,13,14,15,16,17,18] ts H [(4,.int .i64 r)] st)) 0 (wg _) ⟨by simp only[At,ats,wa,wh,wi],by simp⟩ (by
   intro i j H d hi hd
   clear hl0;subst hb
   by_cases hlt:i<l.length
   ·have e1:((i:Int)<(l.length:Int)):=by omega
    have e3:(l.map PExpr.cells)[i]? =some (PExpr.cells l[i]):=by simp[hlt]
    have e5:=hp l[i] (wd hlt)
    simp only[Z3,simprocAttr,fx_296,ty,e1,e3,e5]
    cases hc:p l[i]
    ·simp only[Z3,simprocAttr,qay (show i≤qac by omega)]
     exact .inl ⟨i+1,_,rfl,hlt,⟨by simp only[At,ats,wa,we],hd⟩,by simp only[];omega,by simp only[wb hlt,idxP,hc];rfl⟩
    ·simp only[Z3,simprocAttr]
     exact .inr ⟨_,_,rfl,by simp,.inr ⟨rfl,by simp only[wb hlt,idxP,hc,if_true,At,ats,we],hd⟩⟩
   ·have e1:¬((i:Int)<(l.length:Int)):=by omega
    simp only[Z3,simprocAttr,fx_296,e1]
    exact .inr ⟨_,_,rfl,by simp,.inl ⟨rfl,by simp only[];rw[wc (by omega)];rfl,by simp only[At,ats,wa,we],hd⟩⟩)
 rw[wf]at h2
 rcases h2 with⟨rfl,hr,h2⟩|⟨rfl,h2⟩
 ·obtain⟨j,H,d,hd,rfl⟩:=h2.elim
  clear hl0
  simp only[Z3,simprocAttr,hr,qa2 B.length _ _ d hd,qfs]
 ·obtain⟨j,H,d,hd,rfl⟩:=h2.elim
  clear hl0
  simp only[Z3,simprocAttr,qa2 B.length _ _ d hd,qfs]
theorem qze (l:List PState) (hl:l.length≤qac) (g:FuncId) (fst cap:List AVal) (B:qab) (p:PState→Bool) (hp:∀x∈l,∀H,qai C (B++H) g (fst++(.agg x.cells)::cap)=some (.ret (.bool (p x)) .same)):
 C 229 [.slice (l.map PState.cells) .free,.func g fst cap] B=some (.ret (.int .i64 (idxP p l 0)) .same):=by
 rw[C_fn rfl Tryz.func229 rfl (by kernel_rfl) (m:=17) rfl];simp only[Z3,simprocAttr,Tryz.f229,fx_229]
 generalize hb:qan PP cmp0 C lpC _=f;generalize hl0:lpC f _=r
 obtain⟨ex,s',rfl,h2⟩:=qqw (α:=Nat) B.length hl0 [4,5,9,10,11,12,13,14,15,16,17,18] (fun i=>[(8,.int .i64 i)]) (fun i=>i≤l.length) (fun i=>l.length-i) (fun i=>idxP p (l.drop i) i)
  (fun ts H r ex st=>(ex= .exit 0∧r= -1∧AtD B.length [4,5,8,9,10,11,12,13,14,15,16,17,18] ts H [] st)∨(ex= .ret∧AtD B.length [5,8,9,10,11,12,13,14,15,16,17,18] ts H [(4,.int .i64 r)] st)) 0 (wg _) ⟨by simp only[At,ats,wa,wh,wi],by simp⟩ (by
   intro i j H d hi hd
   clear hl0;subst hb
   by_cases hlt:i<l.length
   ·have e1:((i:Int)<(l.length:Int)):=by omega
    have e3:(l.map PState.cells)[i]? =some (PState.cells l[i]):=by simp[hlt]
    have e5:=hp l[i] (wd hlt)
    simp only[Z3,simprocAttr,fx_229,ty,e1,e3,e5]
    cases hc:p l[i]
    ·simp only[Z3,simprocAttr,qay (show i≤qac by omega)]
     exact .inl ⟨i+1,_,rfl,hlt,⟨by simp only[At,ats,wa,we],hd⟩,by simp only[];omega,by simp only[wb hlt,idxP,hc];rfl⟩
    ·simp only[Z3,simprocAttr]
     exact .inr ⟨_,_,rfl,by simp,.inr ⟨rfl,by simp only[wb hlt,idxP,hc,if_true,At,ats,we],hd⟩⟩
   ·have e1:¬((i:Int)<(l.length:Int)):=by omega
    simp only[Z3,simprocAttr,fx_229,e1]
    exact .inr ⟨_,_,rfl,by simp,.inl ⟨rfl,by simp only[];rw[wc (by omega)];rfl,by simp only[At,ats,wa,we],hd⟩⟩)
 rw[wf]at h2
 rcases h2 with⟨rfl,hr,h2⟩|⟨rfl,h2⟩
 ·obtain⟨j,H,d,hd,rfl⟩:=h2.elim
  clear hl0
  simp only[Z3,simprocAttr,hr,qa2 B.length _ _ d hd,qfs]
 ·obtain⟨j,H,d,hd,rfl⟩:=h2.elim
  clear hl0
  simp only[Z3,simprocAttr,qa2 B.length _ _ d hd,qfs]
theorem q1l (l:List PItem) (hl:l.length≤qac) (g:FuncId) (fst cap:List AVal) (B:qab) (p:PItem→Bool) (hp:∀x∈l,∀H,qai C (B++H) g (fst++(.agg x.cells)::cap)=some (.ret (.bool (p x)) .same)):
 C 242 [.slice (l.map PItem.cells) .free,.func g fst cap] B=some (.ret (.int .i64 (idxP p l 0)) .same):=by
 rw[C_fn rfl Tryz.func242 rfl (by kernel_rfl) (m:=17) rfl];simp only[Z3,simprocAttr,Tryz.f242,fx_242]
 generalize hb:qan PP cmp0 C lpC _=f;generalize hl0:lpC f _=r
 obtain⟨ex,s',rfl,h2⟩:=qqw (α:=Nat) B.length hl0 [4,5,9,10,11,12,13,14,15,16,17,18] (fun i=>[(8,.int .i64 i)]) (fun i=>i≤l.length) (fun i=>l.length-i) (fun i=>idxP p (l.drop i) i)
  (fun ts H r ex st=>(ex= .exit 0∧r= -1∧AtD B.length [4,5,8,9,10,11,12,13,14,15,16,17,18] ts H [] st)∨(ex= .ret∧AtD B.length [5,8,9,10,11,12,13,14,15,16,17,18] ts H [(4,.int .i64 r)] st)) 0 (wg _) ⟨by simp only[At,ats,wa,wh,wi],by simp⟩ (by
   intro i j H d hi hd
   clear hl0;subst hb
   by_cases hlt:i<l.length
   ·have e1:((i:Int)<(l.length:Int)):=by omega
    have e3:(l.map PItem.cells)[i]? =some (PItem.cells l[i]):=by simp[hlt]
    have e5:=hp l[i] (wd hlt)
    simp only[Z3,simprocAttr,fx_242,ty,e1,e3,e5]
    cases hc:p l[i]
    ·simp only[Z3,simprocAttr,qay (show i≤qac by omega)]
     exact .inl ⟨i+1,_,rfl,hlt,⟨by simp only[At,ats,wa,we],hd⟩,by simp only[];omega,by simp only[wb hlt,idxP,hc];rfl⟩
    ·simp only[Z3,simprocAttr]
     exact .inr ⟨_,_,rfl,by simp,.inr ⟨rfl,by simp only[wb hlt,idxP,hc,if_true,At,ats,we],hd⟩⟩
   ·have e1:¬((i:Int)<(l.length:Int)):=by omega
    simp only[Z3,simprocAttr,fx_242,e1]
    exact .inr ⟨_,_,rfl,by simp,.inl ⟨rfl,by simp only[];rw[wc (by omega)];rfl,by simp only[At,ats,wa,we],hd⟩⟩)
 rw[wf]at h2
 rcases h2 with⟨rfl,hr,h2⟩|⟨rfl,h2⟩
 ·obtain⟨j,H,d,hd,rfl⟩:=h2.elim
  clear hl0
  simp only[Z3,simprocAttr,hr,qa2 B.length _ _ d hd,qfs]
 ·obtain⟨j,H,d,hd,rfl⟩:=h2.elim
  clear hl0
  simp only[Z3,simprocAttr,qa2 B.length _ _ d hd,qfs]
theorem q1m (l:List PNode) (hl:l.length≤qac) (g:FuncId) (fst cap:List AVal) (B:qab) (p:PNode→Bool) (hp:∀x∈l,∀H,qai C (B++H) g (fst++(.agg x.cells)::cap)=some (.ret (.bool (p x)) .same)):
 C 206 [.slice (l.map PNode.cells) .free,.func g fst cap] B=some (.ret (.int .i64 (idxP p l 0)) .same):=by
 rw[C_fn rfl Tryz.func206 rfl (by kernel_rfl) (m:=17) rfl];simp only[Z3,simprocAttr,Tryz.f206,fx_206]
 generalize hb:qan PP cmp0 C lpC _=f;generalize hl0:lpC f _=r
 obtain⟨ex,s',rfl,h2⟩:=qqw (α:=Nat) B.length hl0 [4,5,9,10,11,12,13,14,15,16,17,18] (fun i=>[(8,.int .i64 i)]) (fun i=>i≤l.length) (fun i=>l.length-i) (fun i=>idxP p (l.drop i) i)
  (fun ts H r ex st=>(ex= .exit 0∧r= -1∧AtD B.length [4,5,8,9,10,11,12,13,14,15,16,17,18] ts H [] st)∨(ex= .ret∧AtD B.length [5,8,9,10,11,12,13,14,15,16,17,18] ts H [(4,.int .i64 r)] st)) 0 (wg _) ⟨by simp only[At,ats,wa,wh,wi],by simp⟩ (by
   intro i j H d hi hd
   clear hl0;subst hb
   by_cases hlt:i<l.length
   ·have e1:((i:Int)<(l.length:Int)):=by omega
    have e3:(l.map PNode.cells)[i]? =some (PNode.cells l[i]):=by simp[hlt]
    have e5:=hp l[i] (wd hlt)
    simp only[Z3,simprocAttr,fx_206,ty,e1,e3,e5]
    cases hc:p l[i]
    ·simp only[Z3,simprocAttr,qay (show i≤qac by omega)]
     exact .inl ⟨i+1,_,rfl,hlt,⟨by simp only[At,ats,wa,we],hd⟩,by simp only[];omega,by simp only[wb hlt,idxP,hc];rfl⟩
    ·simp only[Z3,simprocAttr]
     exact .inr ⟨_,_,rfl,by simp,.inr ⟨rfl,by simp only[wb hlt,idxP,hc,if_true,At,ats,we],hd⟩⟩
   ·have e1:¬((i:Int)<(l.length:Int)):=by omega
    simp only[Z3,simprocAttr,fx_206,e1]
    exact .inr ⟨_,_,rfl,by simp,.inl ⟨rfl,by simp only[];rw[wc (by omega)];rfl,by simp only[At,ats,wa,we],hd⟩⟩)
 rw[wf]at h2
 rcases h2 with⟨rfl,hr,h2⟩|⟨rfl,h2⟩
 ·obtain⟨j,H,d,hd,rfl⟩:=h2.elim
  clear hl0
  simp only[Z3,simprocAttr,hr,qa2 B.length _ _ d hd,qfs]
 ·obtain⟨j,H,d,hd,rfl⟩:=h2.elim
  clear hl0
  simp only[Z3,simprocAttr,qa2 B.length _ _ d hd,qfs]
theorem qzf (l:List Str) (hl:l.length≤qac) (g:FuncId) (cs:List AVal) (hcs:qad cs=[]) (p:Str→Bool) (hp:∀x∈l,∀H,qai C (.box cs::H) g [.str x,.ptr 0 0]=some (.ret (.bool (p x)) .same)):
 C 203 [.slice (l.map (fun s=>[AVal.str s])) .free,.func g [] [.ptr 0 0]] [.box cs]=some (.ret (.bool (l.any p)) .same):=by
 have e1:∀H,qai C (.box cs::H) 241 [.slice (l.map (fun s=>[AVal.str s])) .free,.func g [] [.ptr 0 0]]=some (.ret (.int .i64 (idxP p l 0)) .same):=fun H=>
  qbg (b:=0) _ rfl rfl hcs (qv3 l hl g [] [.ptr 0 0] [.box cs] p hp) rfl
 rw[C_fn rfl Tryz.func203 rfl (by kernel_rfl) (m:=7) rfl];simp only[Z3,simprocAttr,Tryz.f203,fx_203,e1,qkp,qa2 1 _ _ [] (by simp)]
theorem qwo (l:List PExpr) (hl:l.length≤qac) (g:FuncId) (cs:List AVal) (hcs:qad cs=[]) (p:PExpr→Bool) (hp:∀x∈l,∀H,qai C (.box cs::H) g [.agg x.cells,.ptr 0 0]=some (.ret (.bool (p x)) .same)):
 C 284 [.slice (l.map PExpr.cells) .free,.func g [] [.ptr 0 0]] [.box cs]=some (.ret (.bool (l.any p)) .same):=by
 have e1:∀H,qai C (.box cs::H) 296 [.slice (l.map PExpr.cells) .free,.func g [] [.ptr 0 0]]=some (.ret (.int .i64 (idxP p l 0)) .same):=fun H=>
  qbg (b:=0) _ rfl rfl hcs (q1k l hl g [] [.ptr 0 0] [.box cs] p hp) rfl
 rw[C_fn rfl Tryz.func284 rfl (by kernel_rfl) (m:=7) rfl];simp only[Z3,simprocAttr,Tryz.f284,fx_284,e1,qkp,qa2 1 _ _ [] (by simp)]
theorem qvv (l:List PState) (hl:l.length≤qac) (g:FuncId) (cs:List AVal) (hcs:qad cs=[]) (p:PState→Bool) (hp:∀x∈l,∀H,qai C (.box cs::H) g [.agg x.cells,.ptr 0 0]=some (.ret (.bool (p x)) .same)):
 C 182 [.slice (l.map PState.cells) .free,.func g [] [.ptr 0 0]] [.box cs]=some (.ret (.bool (l.any p)) .same):=by
 have e1:∀H,qai C (.box cs::H) 229 [.slice (l.map PState.cells) .free,.func g [] [.ptr 0 0]]=some (.ret (.int .i64 (idxP p l 0)) .same):=fun H=>
  qbg (b:=0) _ rfl rfl hcs (qze l hl g [] [.ptr 0 0] [.box cs] p hp) rfl
 rw[C_fn rfl Tryz.func182 rfl (by kernel_rfl) (m:=7) rfl];simp only[Z3,simprocAttr,Tryz.f182,fx_182,e1,qkp,qa2 1 _ _ [] (by simp)]
theorem qwp (l:List PItem) (hl:l.length≤qac) (g:FuncId) (cs:List AVal) (hcs:qad cs=[]) (p:PItem→Bool) (hp:∀x∈l,∀H,qai C (.box cs::H) g [.agg x.cells,.ptr 0 0]=some (.ret (.bool (p x)) .same)):
 C 207 [.slice (l.map PItem.cells) .free,.func g [] [.ptr 0 0]] [.box cs]=some (.ret (.bool (l.any p)) .same):=by
 have e1:∀H,qai C (.box cs::H) 242 [.slice (l.map PItem.cells) .free,.func g [] [.ptr 0 0]]=some (.ret (.int .i64 (idxP p l 0)) .same):=fun H=>
  qbg (b:=0) _ rfl rfl hcs (q1l l hl g [] [.ptr 0 0] [.box cs] p hp) rfl
 rw[C_fn rfl Tryz.func207 rfl (by kernel_rfl) (m:=7) rfl];simp only[Z3,simprocAttr,Tryz.f207,fx_207,e1,qkp,qa2 1 _ _ [] (by simp)]
theorem qwq (l:List PNode) (hl:l.length≤qac) (g:FuncId) (cs:List AVal) (hcs:qad cs=[]) (p:PNode→Bool) (hp:∀x∈l,∀H,qai C (.box cs::H) g [.agg x.cells,.ptr 0 0]=some (.ret (.bool (p x)) .same)):
 C 140 [.slice (l.map PNode.cells) .free,.func g [] [.ptr 0 0]] [.box cs]=some (.ret (.bool (l.any p)) .same):=by
 have e1:∀H,qai C (.box cs::H) 206 [.slice (l.map PNode.cells) .free,.func g [] [.ptr 0 0]]=some (.ret (.int .i64 (idxP p l 0)) .same):=fun H=>
  qbg (b:=0) _ rfl rfl hcs (q1m l hl g [] [.ptr 0 0] [.box cs] p hp) rfl
 rw[C_fn rfl Tryz.func140 rfl (by kernel_rfl) (m:=7) rfl];simp only[Z3,simprocAttr,Tryz.f140,fx_140,e1,qkp,qa2 1 _ _ [] (by simp)]
end Go.Ab
namespace Go.Ab
open Go Go.Ab.Tab
def pbox (ts:List PTok) (d:Nat):List AVal:=[.slice (ts.map PTok.cells) .free,.int .i64 d]
theorem qaa (ts:List PTok) (d:Nat):qad (pbox ts d)=[]:=by simp[pbox,qad,refs]
structure TsOk (ts:List PTok):Prop where
 fin:∃l e,ts=l++[e]∧e.sort=6
 le:ts.length≤65537
theorem TsOk.ne {ts:List PTok} (h:TsOk ts):∃t r,ts=t::r:=by
 obtain⟨l,e,h,_⟩:=h.fin
 cases ts with
 |nil=>simp at h
 |cons t r=>exact⟨t,r,rfl⟩
theorem TsOk.tail {t:PTok} {r:List PTok} (h:TsOk (t::r)) (hs:t.sort≠6):TsOk r:=by
 obtain⟨l,e,h1,h2⟩:=h.fin
 cases l with
 |nil=>simp at h1;obtain⟨rfl,rfl⟩:=h1;exact(hs h2).elim
 |cons x l=>simp at h1;obtain⟨rfl,rfl⟩:=h1;exact⟨⟨l,e,rfl,h2⟩,by have:=h.le;simp only[wq]at this;omega⟩
theorem TsOk.hasS {s:Str} {ts:List PTok} (h:TsOk ts) (hs:hasS s ts=true):∃t r,ts=t::r∧TsOk r∧t.text=s∧(t.sort=4∨t.sort=5):=by
 obtain⟨t,r,rfl⟩:=h.ne
 simp only[Go.Ab.hasS,qr7,wt,Bool.or_eq_true,beq_iff_eq]at hs
 exact⟨t,r,rfl,h.tail (by rcases hs.1 with h|h<;>omega),hs.2,hs.1⟩
theorem qe3 (n:Nat) (H:qab) (ts:List PTok) (d:Nat) (b:Nat) (hb:H[b]? =some (.box (pbox ts d))):qiz n H b:=
 q0n n H b _ hb (by intro v hv;simp[pbox]at hv;rcases hv with rfl|rfl<;>simp)
theorem qfw {n:Nat} {v v':AVal} {h:qab} {d:List Nat} (hd:∀x∈d,n≤x) (hr:refs (strip3 v)=[]) (hv:strip3 v=v'):some (CR.ret (qbq n v h d).1 (qbq n v h d).2)=some (CR.ret v' .same):=by
 rw[qa2 n v h d hd hr,hv]
theorem next_c (t:PTok) (r:List PTok) (d:Nat):C 51 [.ptr 0 0] [.box (pbox (t::r) d)]=some (.ret (.agg t.cells) .same):=by
 have hc:t.cells=[.int .i64 t.sort,.str t.text,.int .i64 t.n,.int .i64 t.line,.int .i64 t.col]:=rfl
 rw[hc]
 rw[C_fn rfl Tryz.func51 rfl (by kernel_rfl) (m:=8) rfl];simp only[Z3,simprocAttr,Tryz.f51,fx_51,pbox,hc,ww]
 rw[qa2 1 _ _ _ (by simp) rfl];rfl
theorem qe9 (t:PTok) (r:List PTok) (d:Nat) (H:qab):qai C (.box (pbox (t::r) d)::H) 51 [.ptr 0 0]=some (.ret (.agg [.int .i64 t.sort,.str t.text,.int .i64 t.n,.int .i64 t.line,.int .i64 t.col]) .same):=
 qcm (rest:=[]) rfl rfl (qaa _ _) (next_c t r d) rfl
theorem psign_c (t:PTok) (r:List PTok) (d:Nat):C 130 [.ptr 0 0] [.box (pbox (t::r) d)]=some (.ret (.str (qaw (t::r))) .same):=by
 cases h4:(t.sort==4)
 ·cases h5:(t.sort==5)
  ·have e:qaw (t::r)=[]:=by simp[qaw,h4,h5]
   rw[e]
   rw[C_fn rfl Tryz.func130 rfl (by kernel_rfl) (m:=15) rfl];simp only[Z3,simprocAttr,Tryz.f130,fx_130,qe9,h4,h5]
   exact qfw (by simp[Eff.dirt]) rfl rfl
  ·have e:qaw (t::r)=t.text:=by simp[qaw,h4,h5]
   rw[e]
   rw[C_fn rfl Tryz.func130 rfl (by kernel_rfl) (m:=15) rfl];simp only[Z3,simprocAttr,Tryz.f130,fx_130,qe9,h4,h5]
   exact qfw (by simp[Eff.dirt]) rfl rfl
 ·have e:qaw (t::r)=t.text:=by simp[qaw,h4]
  rw[e]
  rw[C_fn rfl Tryz.func130 rfl (by kernel_rfl) (m:=15) rfl];simp only[Z3,simprocAttr,Tryz.f130,fx_130,qe9,h4]
  exact qfw (by simp[Eff.dirt]) rfl rfl
theorem qbd (t:PTok) (r:List PTok) (d:Nat) (H:qab):qai C (.box (pbox (t::r) d)::H) 130 [.ptr 0 0]=some (.ret (.str (qaw (t::r))) .same):=
 qcm (rest:=[]) rfl rfl (qaa _ _) (psign_c t r d) rfl
theorem slice_one (t:PTok) (r:List PTok):qi2 PP 77 (.slice (t.cells::r.map PTok.cells) .free) (some (.int .i64 1)) none none=some (.slice (r.map PTok.cells) .free):=by
 have h1:PP.underlying 77=some (.slice 84):=by kernel_rfl
 have h2:qas PP 84=some 5:=by kernel_rfl
 unfold qi2
 simp only[h1,h2]
 have hb:qh6 (.int .i64 1) (t.cells::r.map PTok.cells).length=some 1:=by
  simp[qh6];omega
 rw[hb]
 have h3:qfq 5 (t.cells::r.map PTok.cells)=true:=rfl
 simp only[h3,if_true,List.drop_succ_cons,wf,wq,Nat.add_sub_cancel]
 congr 1
 have:(r.map PTok.cells).take (r.map PTok.cells).length=r.map PTok.cells:=List.take_length
 rw[this]
 congr 1
 simp[qp3]
theorem step_c (t:PTok) (r:List PTok) (d:Nat):qbj C 131 [.ptr 0 0] [.box (pbox (t::r) d)] (.tuple []) [.box (pbox r d)]:=by
 refine qa9 rfl Tryz.func131 rfl (by kernel_rfl) (m:=9) rfl ?_;simp only[Z3,simprocAttr,Tryz.f131,fx_131,pbox,ww,slice_one]
 exact qc3 (.inr rfl) rfl rfl rfl (fun b hb=>by
  obtain rfl:b=0:=wk.1 hb
  exact qe3 _ _ r d _ rfl) rfl
theorem met {f:FuncId} {rest:List AVal} {x y:List AVal} {v:AVal} (g:qbj C f (.ptr 0 0::rest) [.box x] v [.box y]) (hr:qad rest=[]) (px:qad x=[]) (py:qad y=[]) (hv:refs v=[]):
 ∃E:qab→Eff,(∀H,qai C (.box x::H) f (.ptr 0 0::rest)=some (.ret v (E H)))∧∀H,(E H).of (.box x::H)= .box y::H:=by
 have h:∀H,∃E:Eff,qai C (.box x::H) f (.ptr 0 0::rest)=some (.ret v E)∧E.of (.box x::H)= .box y::H:=fun H=>qel qao (b:=0) (H:= .box x::H) hr rfl px py g hv
 exact⟨fun H=>(h H).choose,fun H=>(h H).choose_spec.1,fun H=>(h H).choose_spec.2⟩
theorem qlv (t:PTok) (r:List PTok) (d:Nat):∃E:qab→Eff,(∀H,qai C (.box (pbox (t::r) d)::H) 131 [.ptr 0 0]=some (.ret (.tuple []) (E H)))∧∀H,(E H).of (.box (pbox (t::r) d)::H)= .box (pbox r d)::H:=
 met (step_c t r d) rfl (qaa _ _) (qaa _ _) rfl
theorem sign_ne {s:Str} {t:PTok} {r:List PTok} (hs:s≠[]) (h:hasS s (t::r)=false):(qaw (t::r) !=s)=true:=by
 simp only[hasS,qr7,qaw]at h ⊢
 cases h4:(t.sort==4||t.sort==5)
 ·simp[Ne.symm hs]
 ·simp[h4]at h ⊢;exact h
theorem qve {s:Str} {t:PTok} {r:List PTok} (h:hasS s (t::r)=true):qaw (t::r)=s:=by
 simp only[hasS,qr7,qaw,wt,beq_iff_eq]at h ⊢
 rw[if_pos h.1];exact h.2
theorem qif (s:Str) (hs:s≠[]) (t:PTok) (r:List PTok) (d:Nat) (h:hasS s (t::r)=false):C 76 [.ptr 0 0,.str s] [.box (pbox (t::r) d)]=some (.ret (.bool false) .same):=by
 have hn:=sign_ne hs h
 have hn':(!(qaw (t::r)==s))=true:=hn
 rw[C_fn rfl Tryz.func76 rfl (by kernel_rfl) (m:=9) rfl];simp only[Z3,simprocAttr,Tryz.f76,fx_76,qbd,hn']
 exact qfw (by simp[Eff.dirt]) rfl rfl
theorem qev (s:Str) (t:PTok) (r:List PTok) (d:Nat) (h:hasS s (t::r)=true):qbj C 76 [.ptr 0 0,.str s] [.box (pbox (t::r) d)] (.bool true) [.box (pbox r d)]:=by
 have hn:=qve h
 have hn':(!(qaw (t::r)==s))=false:=by rw[hn];simp
 obtain⟨E,e1,e2⟩:=qlv t r d
 refine qa9 rfl Tryz.func76 rfl (by kernel_rfl) (m:=9) rfl ?_;simp only[Z3,simprocAttr,Tryz.f76,fx_76,effs,qbd,hn',e1,e2]
 exact qc3 (.inl rfl) rfl rfl rfl (fun b hb=>by
  obtain rfl:b=0:=wk.1 hb
  exact qe3 _ _ r d _ rfl) rfl
theorem qe4 (s:Str) (hs:s≠[]) (t:PTok) (r:List PTok) (d:Nat) (h:hasS s (t::r)=false) (H:qab):qai C (.box (pbox (t::r) d)::H) 76 [.ptr 0 0,.str s]=some (.ret (.bool false) .same):=
 qcm (rest:=[.str s]) rfl rfl (qaa _ _) (qif s hs t r d h) rfl
theorem qdh (s:Str) (t:PTok) (r:List PTok) (d:Nat) (h:hasS s (t::r)=true):∃E:qab→Eff,(∀H,qai C (.box (pbox (t::r) d)::H) 76 [.ptr 0 0,.str s]=some (.ret (.bool true) (E H)))∧∀H,(E H).of (.box (pbox (t::r) d)::H)= .box (pbox r d)::H:=
 met (qev s t r d h) rfl (qaa _ _) (qaa _ _) rfl
theorem qh3 (s:Str) (t:PTok) (r:List PTok) (d:Nat) (h:hasS s (t::r)=true):qbj C 78 [.ptr 0 0,.slice [[.str s]] .full] [.box (pbox (t::r) d)] (.tuple []) [.box (pbox r d)]:=by
 obtain⟨E,e1,e2⟩:=qdh s t r d h
 refine qa9 rfl Tryz.func78 rfl (by kernel_rfl) (m:=17) rfl ?_;simp only[Z3,simprocAttr,Tryz.f78,qiy,effs,e1,e2]
 have d1:decide ((0:Int)<((1:Nat):Int))=true:=rfl
 have d0:decide ((1:Int)<((1:Nat):Int))=false:=rfl
 have g0:([[AVal.str s]]:List (List AVal))[0]? =some [.str s]:=rfl
 rw[qin]
 simp only[Z3,simprocAttr,effs,qiy,e1,e2,d1,g0]
 rw[qin]
 simp only[Z3,simprocAttr,effs,qiy,e1,e2,d0]
 exact qc3 (.inr rfl) rfl rfl rfl (fun b hb=>by
  obtain rfl:b=0:=wk.1 hb
  exact qe3 _ _ r d _ rfl) rfl
theorem word_c (k:Int) (t:PTok) (r:List PTok) (d:Nat) (h:t.sort=k):qbj C 197 [.ptr 0 0,.int .i64 k] [.box (pbox (t::r) d)] (.str t.text) [.box (pbox r d)]:=by
 subst h
 obtain⟨E,e1,e2⟩:=qlv t r d
 refine qa9 rfl Tryz.func197 rfl (by kernel_rfl) (m:=16) rfl ?_;simp only[Z3,simprocAttr,Tryz.f197,fx_197,effs,qe9,bne_self_eq_false,e1,e2]
 exact qc3 (.inl rfl) rfl rfl rfl (fun b hb=>by
  obtain rfl:b=0:=wk.1 hb
  exact qe3 _ _ r d _ rfl) rfl
end Go.Ab
