/- When texts and expressions are the same. -/
import Derived.Test.YtngklkmeknmloaaGreatDoorAbBase
set_option linter.unusedSimpArgs false
set_option linter.unusedVariables false
set_option maxRecDepth 100000
set_option maxHeartbeats 4000000
open Go.Proofs
open Int renaming natCast_zero→wa
open List renaming drop_eq_nil_of_le→wb,drop_eq_getElem_cons→wc,getElem_mem→wd,drop_zero→we
open Nat renaming zero_le→wf,le_of_not_lt→wi
open Bool renaming false_and→wg,true_and→wh
namespace Go.Ab
open Go Go.Ab.Tab
mutual
def PExpr.size:PExpr→Int
 | .mk _ _ _ _ ks=>sizeL ks 1
def sizeL:List PExpr→Int→Int
 |[],a=>a
 |k::r,a=>sizeL r (wadd a k.size)
end
def imax (a b:Int):Int:=if a<b then b else a
mutual
def PExpr.depth:PExpr→Int
 | .mk _ _ _ _ ks=>wadd (qs7 ks 0) 1
def qs7:List PExpr→Int→Int
 |[],a=>a
 |k::r,a=>qs7 r (imax a k.depth)
end
theorem size_c (e:PExpr) (hsm:e.Small):Ret C 25 [.agg e.cells] (.int .i64 e.size):=by
 induction e using PExpr.induct with
 |h op name n cons ks ih=>
 obtain⟨hkl,hks⟩:=hsm.kids
 simp only[PExpr.kids]at hkl hks
 refine Ret.mk (by simp[qad,qnw (PExpr.ok _)]) rfl ?_
 rw[C_fn rfl Tryz.func25 rfl (by kernel_rfl) (m:=18) rfl];simp only[Z3,simprocAttr,Tryz.f25,fx_25,PExpr.kids]
 generalize hb:qam PP cmp0 C lpC _=f;generalize hl:lpC f _=r
 obtain⟨ex,s',rfl,rfl,h2⟩:=qeg (α:=Nat×Int) hl [5,10,11,12,13,14,15,16,17] (fun a=>[(3,.int .i64 a.2),(9,.int .i64 a.1)]) (fun a=>a.1≤ks.length) (fun a=>ks.length-a.1) (fun a=>sizeL (ks.drop a.1) a.2)
  (fun ts H r ex s=>ex= .exit 0∧At [5,9,10,11,12,13,14,15,16,17] ts H [(3,.int .i64 r)] s) (0,1) (wf _) (by simp only[At,ats,wa]) (by
   rintro⟨i,a⟩ j H d hi
   clear hl;subst hb
   simp only[Z3,simprocAttr,fx_25]
   by_cases hlt:i<ks.length
   ·have e1:((i:Int)<(ks.length:Int)):=by omega
    have e3:(ks.map PExpr.cells)[i]? =some (ks[i].cells):=by simp[hlt]
    simp only[Z3,simprocAttr,fx_25,e1,e3,qb7,(ih ks[i] (wd hlt) (hks _ (wd hlt))) _,qaz (show i≤qac by omega)]
    refine .inl ⟨(i+1,wadd a ks[i].size),_,rfl,hlt,by simp only[At,ats,wadd,imax],by simp only[];omega,?_⟩
    simp only[wc hlt,sizeL]
   ·have e1:¬((i:Int)<(ks.length:Int)):=by omega
    simp only[Z3,simprocAttr,fx_25,e1]
    refine .inr ⟨_,_,rfl,by simp,rfl,?_⟩
    simp only[wb (wi hlt),sizeL,At,ats])
 obtain⟨j,H,d,rfl⟩:=h2.elim
 clear hl
 simp only[Z3,simprocAttr]
 simp[PExpr.size,wadd]
theorem depth_c (e:PExpr) (hsm:e.Small):Ret C 22 [.agg e.cells] (.int .i64 e.depth):=by
 induction e using PExpr.induct with
 |h op name n cons ks ih=>
 obtain⟨hkl,hks⟩:=hsm.kids
 simp only[PExpr.kids]at hkl hks
 refine Ret.mk (by simp[qad,qnw (PExpr.ok _)]) rfl ?_
 rw[C_fn rfl Tryz.func22 rfl (by kernel_rfl) (m:=19) rfl];simp only[Z3,simprocAttr,Tryz.f22,fx_22,PExpr.kids]
 generalize hb:qam PP cmp0 C lpC _=f;generalize hl:lpC f _=r
 obtain⟨ex,s',rfl,rfl,h2⟩:=qeg (α:=Nat×Int) hl [5,10,11,12,13,14,15,16,17] (fun a=>[(3,.int .i64 a.2),(9,.int .i64 a.1)]) (fun a=>a.1≤ks.length) (fun a=>ks.length-a.1) (fun a=>qs7 (ks.drop a.1) a.2)
  (fun ts H r ex s=>ex= .exit 0∧At [5,9,10,11,12,13,14,15,16,17] ts H [(3,.int .i64 r)] s) (0,0) (wf _) (by simp only[At,ats,wa]) (by
   rintro⟨i,a⟩ j H d hi
   clear hl;subst hb
   simp only[Z3,simprocAttr,fx_22]
   by_cases hlt:i<ks.length
   ·have e1:((i:Int)<(ks.length:Int)):=by omega
    have e3:(ks.map PExpr.cells)[i]? =some (ks[i].cells):=by simp[hlt]
    simp only[Z3,simprocAttr,fx_22,e1,e3,qb7,(ih ks[i] (wd hlt) (hks _ (wd hlt))) _,qaz (show i≤qac by omega)]
    refine .inl ⟨(i+1,imax a ks[i].depth),_,rfl,hlt,by simp only[At,ats,wadd,imax],by simp only[];omega,?_⟩
    simp only[wc hlt,qs7]
   ·have e1:¬((i:Int)<(ks.length:Int)):=by omega
    simp only[Z3,simprocAttr,fx_22,e1]
    refine .inr ⟨_,_,rfl,by simp,rfl,?_⟩
    simp only[wb (wi hlt),qs7,At,ats])
 obtain⟨j,H,d,rfl⟩:=h2.elim
 clear hl
 simp only[Z3,simprocAttr]
 simp[PExpr.depth,wadd]
end Go.Ab
namespace Go.Ab
open Go Go.Ab.Tab
theorem qir (l:List Str) (i:Nat) (h:i<l.length):(l.map fun s=>[AVal.str s])[i]? =some [.str l[i]]:=by simp[h]
theorem qri {α:Type} [BEq α] (l m:List α) (i:Nat) (h:i<l.length) (h':i<m.length):(l.drop i==m.drop i)=(l[i]==m[i] && l.drop (i+1)==m.drop (i+1)):=by
 rw[wc h,wc h',List.cons_beq_cons]
theorem beq_len {α:Type} [BEq α] [LawfulBEq α] (l m:List α) (h:¬l.length=m.length):(l==m)=false:=by
 simp only[beq_eq_false_iff_ne];intro e;exact h (by rw[e])
def qp2 (junk junk':List Nat) (slot:Nat) (ts:List AVal) (H:qab) (r:Bool) (ex:AEx) (s:St):Prop:=
 (r=true∧ex= .exit 0∧At junk ts H [] s)∨(r=false∧ex= .ret∧At junk' ts H [(slot,.bool false)] s)
theorem equal_c (l m:List Str) (hl:l.length≤qac):Ret C 261 [qag l,qag m] (.bool (l==m)):=by
 refine Ret.mk rfl rfl ?_
 by_cases hlen:l.length=m.length
 ·rw[C_fn rfl Tryz.func261 rfl (by kernel_rfl) (m:=24) rfl];simp only[Z3,simprocAttr,Tryz.f261,qxi,qag,hlen,bne_self_eq_false]
  generalize hb:qam PP cmp0 C lpC _=f;generalize hl:lpC f _=r
  obtain⟨ex,s',rfl,h2⟩:=qeg (α:=Nat) hl [4,5,14,15,16,17,18,19,20,21,22,23,24,25] (fun i=>[(13,.int .i64 i)]) (fun i=>i≤l.length) (fun i=>l.length-i) (fun i=>l.drop i==m.drop i)
   (qp2 [4,5,13,14,15,16,17,18,19,20,21,22,23,24,25] [5,13,14,15,16,17,18,19,20,21,22,23,24,25] 4) 0 (wf _) (by simp only[At,ats,wa]) (by
    intro i j H d hi
    clear hl;subst hb
    by_cases hlt:i<l.length
    ·have e1:((i:Int)<(m.length:Int)):=by omega
     have e3:=qir l i hlt
     have e4:=qir m i (by omega)
     simp only[Z3,simprocAttr,qxi,e1,e3,e4]
     cases hc:l[i]==m[i]
     ·simp only[Z3,simprocAttr]
      exact .inr ⟨_,_,rfl,by simp,.inr ⟨by simp only[qri l m i hlt (by omega),hc,wg],rfl,by simp only[At,ats,wa]⟩⟩
     ·simp only[Z3,simprocAttr,qaz (show i≤qac by omega)]
      exact .inl ⟨i+1,_,rfl,hlt,by simp only[At,ats,wa],by simp only[];omega,by simp only[qri l m i hlt (by omega),hc,wh]⟩
    ·have e1:¬((i:Int)<(m.length:Int)):=by omega
     simp only[Z3,simprocAttr,qxi,e1]
     exact .inr ⟨_,_,rfl,by simp,.inl ⟨by simp only[];rw[wb (by omega),wb (by omega)];rfl,rfl,by simp only[At,ats,wa]⟩⟩)
  rw[we,we]at h2
  rcases h2 with⟨hr,rfl,h2⟩|⟨hr,rfl,h2⟩
  ·obtain⟨j,H,d,rfl⟩:=h2.elim
   clear hl
   simp only[Z3,simprocAttr,hr]
  ·obtain⟨j,H,d,rfl⟩:=h2.elim
   clear hl
   simp only[Z3,simprocAttr,hr]
 ·have e0:((l.length:Int) !=(m.length:Int))=true:=by simp;omega
  rw[C_fn rfl Tryz.func261 rfl (by kernel_rfl) (m:=24) rfl];simp only[Z3,simprocAttr,Tryz.f261,qxi,qag,e0,beq_len l m hlen]
theorem qh7 (l m:List Str) (hl:l.length≤qac):Ret C 46 [qag l,qag m] (.bool (l==m)):=by
 refine Ret.mk rfl rfl ?_
 by_cases hlen:l.length=m.length
 ·rw[C_fn rfl Tryz.func46 rfl (by kernel_rfl) (m:=24) rfl];simp only[Z3,simprocAttr,Tryz.f46,fx_46,qag,hlen,bne_self_eq_false]
  generalize hb:qam PP cmp0 C lpC _=f;generalize hl:lpC f _=r
  obtain⟨ex,s',rfl,h2⟩:=qeg (α:=Nat) hl [4,11,12,13,14,15,16,17,18,19,20,21,22,23,24,25] (fun i=>[(5,.int .i64 i)]) (fun i=>i≤l.length) (fun i=>l.length-i) (fun i=>l.drop i==m.drop i)
   (qp2 [4,5,11,12,13,14,15,16,17,18,19,20,21,22,23,24,25] [5,11,12,13,14,15,16,17,18,19,20,21,22,23,24,25] 4) 0 (wf _) (by simp only[At,ats,wa]) (by
    intro i j H d hi
    clear hl;subst hb
    by_cases hlt:i<l.length
    ·have e1:((i:Int)<(m.length:Int)):=by omega
     have e3:=qir l i hlt
     have e4:=qir m i (by omega)
     simp only[Z3,simprocAttr,fx_46,hlen,e1,e3,e4]
     cases hc:l[i]==m[i]
     ·simp only[Z3,simprocAttr]
      exact .inr ⟨_,_,rfl,by simp,.inr ⟨by simp only[qri l m i hlt (by omega),hc,wg],rfl,by simp only[At,ats,wa]⟩⟩
     ·simp only[Z3,simprocAttr,qaz (show i≤qac by omega)]
      exact .inl ⟨i+1,_,rfl,by simp only[];omega,by simp only[At,ats,wa],by simp only[];omega,by simp only[qri l m i hlt (by omega),hc,wh]⟩
    ·have e1:¬((i:Int)<(m.length:Int)):=by omega
     simp only[Z3,simprocAttr,fx_46,hlen,e1]
     exact .inr ⟨_,_,rfl,by simp,.inl ⟨by simp only[];rw[wb (by omega),wb (by omega)];rfl,rfl,by simp only[At,ats,wa]⟩⟩)
  rw[we,we]at h2
  rcases h2 with⟨hr,rfl,h2⟩|⟨hr,rfl,h2⟩
  ·obtain⟨j,H,d,rfl⟩:=h2.elim
   clear hl
   simp only[Z3,simprocAttr,hr]
  ·obtain⟨j,H,d,rfl⟩:=h2.elim
   clear hl
   simp only[Z3,simprocAttr,hr]
 ·have e0:((l.length:Int) !=(m.length:Int))=true:=by simp;omega
  rw[C_fn rfl Tryz.func46 rfl (by kernel_rfl) (m:=24) rfl];simp only[Z3,simprocAttr,Tryz.f46,fx_46,qag,e0,beq_len l m hlen]
mutual
def PExpr.same:PExpr→PExpr→Bool
 | .mk o s n c k,.mk o' s' n' c' k'=>o==o' && s==s' && n==n' && c==c' && qgi k k'
def qgi:List PExpr→List PExpr→Bool
 |[],[]=>true
 |a::r,b::t=>a.same b && qgi r t
 |_,_=>false
end
theorem same_iff (a:PExpr):∀b,a.same b=true↔a=b:=by
 induction a using PExpr.induct with
 |h o s n c k ih=>
  have hl:∀(l:List PExpr),(∀x∈l,x∈k)→∀m,qgi l m=true↔l=m:=by
   intro l
   induction l with
   |nil=>intro _ m;cases m<;>simp[qgi]
   |cons x r ihl=>
    intro hx m
    cases m with
    |nil=>simp[qgi]
    |cons y t=>simp[qgi,ih x (hx x (by simp)) y,ihl (fun z hz=>hx z (by simp[hz])) t]
  intro b
  cases b with
  |mk o' s' n' c' k'=>simp[PExpr.same,hl k (fun _ h=>h) k',and_assoc]
theorem qs8:∀(l m:List PExpr),¬l.length=m.length→qgi l m=false
 |[],[],h=>absurd rfl h
 |[],_::_,_=>by simp[qgi]
 |_::_,[],_=>by simp[qgi]
 |a::r,b::t,h=>by
  simp only[qgi,qs8 r t (fun e=>h (by simp[e])),Bool.and_false]
theorem qm5 (l m:List PExpr) (i:Nat) (h:i<l.length) (h':i<m.length):qgi (l.drop i) (m.drop i)=(l[i].same m[i] && qgi (l.drop (i+1)) (m.drop (i+1))):=by
 rw[wc h,wc h',qgi]
theorem qis (l:List PExpr) (i:Nat) (h:i<l.length):(l.map PExpr.cells)[i]? =some l[i].cells:=by simp[h]
theorem q1l (l m:List PExpr) (hl:l.length≤qac) (hc:∀x∈l,∀y∈m,Ret C 244 [.agg x.cells,.agg y.cells] (.bool (x.same y))):
 Ret C 270 [.slice (l.map PExpr.cells) .free,.slice (m.map PExpr.cells) .free,.func 244 [] []] (.bool (qgi l m)):=by
 refine Ret.mk rfl rfl ?_
 by_cases hlen:l.length=m.length
 ·rw[C_fn rfl Tryz.func270 rfl (by kernel_rfl) (m:=29) rfl];simp only[Z3,simprocAttr,Tryz.f270,qxk,hlen,bne_self_eq_false]
  generalize hb:qam PP cmp0 C lpC _=f;generalize hl0:lpC f _=r
  obtain⟨ex,s',rfl,h2⟩:=qeg (α:=Nat) hl0 [6,7,8,9,18,19,20,21,22,23,24,25,26,27,28,29,30,31] (fun i=>[(17,.int .i64 i)]) (fun i=>i≤l.length) (fun i=>l.length-i) (fun i=>qgi (l.drop i) (m.drop i))
   (qp2 [6,7,8,9,17,18,19,20,21,22,23,24,25,26,27,28,29,30,31] [7,8,9,17,18,19,20,21,22,23,24,25,26,27,28,29,30,31] 6) 0 (wf _) (by simp only[At,ats,wa]) (by
    intro i j H d hi
    clear hl0;subst hb
    by_cases hlt:i<l.length
    ·have e1:((i:Int)<(m.length:Int)):=by omega
     have e3:=qis l i hlt
     have e4:=qis m i (by omega)
     have e5:=hc l[i] (wd hlt) m[i] (wd (by omega))
     simp only[Z3,simprocAttr,qxk,e1,e3,e4,e5 _]
     cases hcc:l[i].same m[i]
     ·simp only[Z3,simprocAttr]
      exact .inr ⟨_,_,rfl,by simp,.inr ⟨by simp only[qm5 l m i hlt (by omega),hcc,wg],rfl,by simp only[At,ats,wa]⟩⟩
     ·simp only[Z3,simprocAttr,qaz (show i≤qac by omega)]
      exact .inl ⟨i+1,_,rfl,hlt,by simp only[At,ats,wa],by simp only[];omega,by simp only[qm5 l m i hlt (by omega),hcc,wh]⟩
    ·have e1:¬((i:Int)<(m.length:Int)):=by omega
     simp only[Z3,simprocAttr,qxk,e1]
     exact .inr ⟨_,_,rfl,by simp,.inl ⟨by simp only[];rw[wb (by omega),wb (by omega)];simp[qgi],rfl,by simp only[At,ats,wa]⟩⟩)
  rw[we,we]at h2
  rcases h2 with⟨hr,rfl,h2⟩|⟨hr,rfl,h2⟩
  ·obtain⟨j,H,d,rfl⟩:=h2.elim
   clear hl0
   simp only[Z3,simprocAttr,hr]
  ·obtain⟨j,H,d,rfl⟩:=h2.elim
   clear hl0
   simp only[Z3,simprocAttr,hr]
 ·have e0:((l.length:Int) !=(m.length:Int))=true:=by simp;omega
  rw[C_fn rfl Tryz.func270 rfl (by kernel_rfl) (m:=29) rfl];simp only[Z3,simprocAttr,Tryz.f270,qxk,e0,qs8 l m hlen]
theorem q5b (a:PExpr):∀b,a.Small→Ret C 244 [.agg a.cells,.agg b.cells] (.bool (a.same b)):=by
 induction a using PExpr.induct with
 |h o s n c k ih=>
  intro b ha
  cases b with
  |mk o' s' n' c' k'=>
   obtain⟨hkl,hks⟩:=ha.kids
   have hcs:=ha.cons
   simp only[PExpr.kids]at hkl hks
   simp only[PExpr.cons]at hcs
   refine Ret.mk (by simp[qad,qnw (PExpr.ok _)]) rfl ?_
   have e1:=equal_c c c' hcs.1
   have e2:=q1l k k' hkl (fun x hx y _=>ih x hx y (hks x hx))
   rw[C_fn rfl Tryz.func244 rfl (by kernel_rfl) (m:=36) rfl];simp only[Z3,simprocAttr,Tryz.f244,qpx,PExpr.op,PExpr.name,PExpr.n,PExpr.cons,PExpr.kids,PExpr.same]
   cases h1:o==o'
   ·simp only[Z3,simprocAttr,qpx,h1]
   cases h2:s==s'
   ·simp only[Z3,simprocAttr,qpx,h1,h2,PExpr.name]
   cases h3:n==n'
   ·simp only[Z3,simprocAttr,qpx,h1,h2,h3,PExpr.name,PExpr.n]
   cases h4:c==c'
   ·simp only[Z3,simprocAttr,qpx,h1,h2,h3,h4,PExpr.name,PExpr.n,PExpr.cons,e1 _]
   ·simp only[Z3,simprocAttr,qpx,h1,h2,h3,h4,PExpr.name,PExpr.n,PExpr.cons,PExpr.kids,e1 _,e2 _]
theorem qu5 (a:PExpr):∀b,a.Small→b.Small→Ret C 21 [.agg a.cells,.agg b.cells] (.bool (a.same b)):=by
 induction a using PExpr.induct with
 |h o s n c k ih=>
  intro b ha hb0
  cases b with
  |mk o' s' n' c' k'=>
   obtain⟨hkl,hks⟩:=ha.kids
   obtain⟨hkl',hks'⟩:=hb0.kids
   have hcs:=ha.cons
   simp only[PExpr.kids]at hkl hks hkl' hks'
   simp only[PExpr.cons]at hcs
   refine Ret.mk (by simp[qad,qnw (PExpr.ok _)]) rfl ?_
   have e1:=qh7 c c' hcs.1
   rw[C_fn rfl Tryz.func21 rfl (by kernel_rfl) (m:=59) rfl];simp only[Z3,simprocAttr,Tryz.f21,qm3,PExpr.op,PExpr.name,PExpr.n,PExpr.cons,PExpr.kids,PExpr.same]
   cases h1:o==o'
   ·have g1:(o !=o')=true:=by simp[bne,h1]
    simp only[Z3,simprocAttr,qm3,h1,g1]
   have g1:(o !=o')=false:=by simp[bne,h1]
   cases h2:s==s'
   ·simp only[Z3,simprocAttr,qm3,g1,h2,PExpr.name]
   cases h3:n==n'
   ·have g3:(n !=n')=true:=by simp[bne,h3]
    simp only[Z3,simprocAttr,qm3,g1,h2,h3,g3,PExpr.name,PExpr.n]
   have g3:(n !=n')=false:=by simp[bne,h3]
   cases h4:c==c'
   ·simp only[Z3,simprocAttr,qm3,g1,h2,g3,h4,PExpr.name,PExpr.n,PExpr.cons,e1 _]
   by_cases hlen:k.length=k'.length
   ·simp only[Z3,simprocAttr,qm3,h1,g1,h2,h3,g3,h4,PExpr.name,PExpr.n,PExpr.cons,PExpr.kids,e1 _,hlen,bne_self_eq_false]
    generalize hb:qam PP cmp0 C lpC _=f;generalize hl:lpC f _=r
    obtain⟨ex,s',rfl,h2⟩:=qeg (α:=Nat) hl [4,42,43,44,45,46,47,48,49,50,51,52,53,54,55,56,57,58,59,60] (fun i=>[(5,.int .i64 i)]) (fun i=>i≤k.length) (fun i=>k.length-i) (fun i=>qgi (k.drop i) (k'.drop i))
     (qp2 [4,5,42,43,44,45,46,47,48,49,50,51,52,53,54,55,56,57,58,59,60] [5,42,43,44,45,46,47,48,49,50,51,52,53,54,55,56,57,58,59,60] 4) 0 (wf _) (by simp only[At,ats,wa]) (by
      intro i j H d hi
      clear hl;subst hb
      by_cases hlt:i<k.length
      ·have e1:((i:Int)<(k.length:Int)):=by omega
       have e3:=qis k i hlt
       have e4:=qis k' i (by omega)
       have e5:=ih k[i] (wd hlt) k'[i] (hks _ (wd hlt)) (hks' _ (wd (by omega)))
       simp only[Z3,simprocAttr,qm3,PExpr.kids,e1,e3,e4,e5 _]
       cases hcc:k[i].same k'[i]
       ·simp only[Z3,simprocAttr]
        exact .inr ⟨_,_,rfl,by simp,.inr ⟨by simp only[qm5 k k' i hlt (by omega),hcc,wg],rfl,by simp only[At,ats,wa]⟩⟩
       ·simp only[Z3,simprocAttr,qaz (show i≤qac by omega)]
        exact .inl ⟨i+1,_,rfl,by simp only[];omega,by simp only[At,ats,wa],by simp only[];omega,by simp only[qm5 k k' i hlt (by omega),hcc,wh]⟩
      ·have e1:¬((i:Int)<(k.length:Int)):=by omega
       simp only[Z3,simprocAttr,qm3,PExpr.kids,e1]
       exact .inr ⟨_,_,rfl,by simp,.inl ⟨by simp only[];rw[wb (by omega),wb (by omega)];simp[qgi],rfl,by simp only[At,ats,wa]⟩⟩)
    rw[we,we]at h2
    rcases h2 with⟨hr,rfl,h2⟩|⟨hr,rfl,h2⟩
    ·obtain⟨j,H,d,rfl⟩:=h2.elim
     clear hl
     simp only[Z3,simprocAttr,hr]
    ·obtain⟨j,H,d,rfl⟩:=h2.elim
     clear hl
     simp only[Z3,simprocAttr,hr]
   ·have e0:((k.length:Int) !=(k'.length:Int))=true:=by simp;omega
    simp only[Z3,simprocAttr,qm3,g1,h2,g3,h4,PExpr.name,PExpr.n,PExpr.cons,PExpr.kids,e1 _,e0,qs8 k k' hlen]
end Go.Ab
