/- When texts and expressions are the same. -/
import Derived.Test.YtngklkmeknmloaaGreatDoorAbSize
set_option linter.unusedSimpArgs false
set_option linter.unusedVariables false
set_option maxRecDepth 100000
set_option maxHeartbeats 4000000
open Go.Proofs
open Int renaming natCast_zero→wa
open List renaming drop_eq_getElem_cons→wb,drop_eq_nil_of_le→wc,drop_zero→wd,getElem_mem→we
open Bool renaming false_and→wg,true_and→wh
open Nat renaming zero_le→wi
namespace Go.Ab
open Go Go.Ab.Tab
theorem qms (l:List Str) (i:Nat) (h:i<l.length):(l.map fun s=>[AVal.str s])[i]? =some [.str l[i]]:=by simp[h]
theorem qqx {α:Type} [BEq α] (l m:List α) (i:Nat) (h:i<l.length) (h':i<m.length):(l.drop i==m.drop i)=(l[i]==m[i] && l.drop (i+1)==m.drop (i+1)):=by
 rw[wb h,wb h',List.cons_beq_cons]
theorem beq_len {α:Type} [BEq α] [LawfulBEq α] (l m:List α) (h:¬l.length=m.length):(l==m)=false:=by
 simp only[beq_eq_false_iff_ne];intro e;exact h (by rw[e])
def AllPost (junk junk':List Nat) (slot:Nat) (ts:List AVal) (H:qaa) (r:Bool) (ex:AEx) (s:St):Prop:=
 (r=true∧ex= .exit 0∧At junk ts H [] s)∨(r=false∧ex= .ret∧At junk' ts H [(slot,.bool false)] s)
theorem qr5 (l m:List Str) (hl:l.length≤qae):Ret C 46 [qah l,qah m] (.bool (l==m)):=by
 refine Ret.mk rfl rfl ?_
 by_cases hlen:l.length=m.length
 ·rw[C_fn rfl Tryz.func46 rfl (by kernel_rfl) (m:=24) rfl];simp only[Z3,simprocAttr,Tryz.f46,fx_46,qah,hlen,bne_self_eq_false]
  generalize hb:qar PP cmp0 C lpC _=f;generalize hl:lpC f _=r
  obtain⟨ex,s',rfl,h2⟩:=qgz (α:=Nat) hl [4,11,12,13,14,15,16,17,18,19,20,21,22,23,24,25] (fun i=>[(5,.int .i64 i)]) (fun i=>i≤l.length) (fun i=>l.length-i) (fun i=>l.drop i==m.drop i)
   (AllPost [4,5,11,12,13,14,15,16,17,18,19,20,21,22,23,24,25] [5,11,12,13,14,15,16,17,18,19,20,21,22,23,24,25] 4) 0 (wi _) (by simp only[At,ats,wa]) (by
    intro i j H d hi
    clear hl;subst hb
    by_cases hlt:i<l.length
    ·have e1:((i:Int)<(m.length:Int)):=by omega
     have e3:=qms l i hlt
     have e4:=qms m i (by omega)
     simp only[Z3,simprocAttr,fx_46,hlen,e1,e3,e4]
     cases hc:l[i]==m[i]
     ·simp only[Z3,simprocAttr]
      exact .inr ⟨_,_,rfl,by simp,.inr ⟨by simp only[qqx l m i hlt (by omega),hc,wg],rfl,by simp only[At,ats,wa]⟩⟩
     ·simp only[Z3,simprocAttr,qb2 (show i≤qae by omega)]
      exact .inl ⟨i+1,_,rfl,by simp only[];omega,by simp only[At,ats,wa],by simp only[];omega,by simp only[qqx l m i hlt (by omega),hc,wh]⟩
    ·have e1:¬((i:Int)<(m.length:Int)):=by omega
     simp only[Z3,simprocAttr,fx_46,hlen,e1]
     exact .inr ⟨_,_,rfl,by simp,.inl ⟨by simp only[];rw[wc (by omega),wc (by omega)];rfl,rfl,by simp only[At,ats,wa]⟩⟩)
  rw[wd,wd]at h2
  rcases h2 with⟨hr,rfl,h2⟩|⟨hr,rfl,h2⟩
  ·obtain⟨j,H,d,rfl⟩:=h2.elim
   clear hl
   simp only[Z3,simprocAttr,hr]
  ·obtain⟨j,H,d,rfl⟩:=h2.elim
   clear hl
   simp only[Z3,simprocAttr,hr]
 ·have e0:((l.length:Int) !=(m.length:Int))=true:=by simp;omega
  rw[C_fn rfl Tryz.func46 rfl (by kernel_rfl) (m:=24) rfl];simp only[Z3,simprocAttr,Tryz.f46,fx_46,qah,e0,beq_len l m hlen]
mutual
def PExpr.same:PExpr→PExpr→Bool
 | .mk o s n c k,.mk o' s' n' c' k'=>o==o' && s==s' && n==n' && c==c' && sameL k k'
def sameL:List PExpr→List PExpr→Bool
 |[],[]=>true
 |a::r,b::t=>a.same b && sameL r t
 |_,_=>false
end
theorem same_iff (a:PExpr):∀b,a.same b=true↔a=b:=by
 induction a using PExpr.induct with
 |h o s n c k ih=>
  have hl:∀(l:List PExpr),(∀x∈l,x∈k)→∀m,sameL l m=true↔l=m:=by
   intro l
   induction l with
   |nil=>intro _ m;cases m<;>simp[sameL]
   |cons x r ihl=>
    intro hx m
    cases m with
    |nil=>simp[sameL]
    |cons y t=>simp[sameL,ih x (hx x (by simp)) y,ihl (fun z hz=>hx z (by simp[hz])) t]
  intro b
  cases b with
  |mk o' s' n' c' k'=>simp[PExpr.same,hl k (fun _ h=>h) k',and_assoc]
theorem qo2:∀(l m:List PExpr),¬l.length=m.length→sameL l m=false
 |[],[],h=>absurd rfl h
 |[],_::_,_=>by simp[sameL]
 |_::_,[],_=>by simp[sameL]
 |a::r,b::t,h=>by
  simp only[sameL,qo2 r t (fun e=>h (by simp[e])),Bool.and_false]
theorem qnv (l m:List PExpr) (i:Nat) (h:i<l.length) (h':i<m.length):sameL (l.drop i) (m.drop i)=(l[i].same m[i] && sameL (l.drop (i+1)) (m.drop (i+1))):=by
 rw[wb h,wb h',sameL]
theorem qg3 (l:List PExpr) (i:Nat) (h:i<l.length):(l.map PExpr.cells)[i]? =some l[i].cells:=by simp[h]
theorem qr6 (a:PExpr):∀b,a.Small→b.Small→Ret C 21 [.agg a.cells,.agg b.cells] (.bool (a.same b)):=by
 induction a using PExpr.induct with
 |h o s n c k ih=>
  intro b ha hb0
  cases b with
  |mk o' s' n' c' k'=>
   obtain⟨hkl,hks⟩:=ha.kids
   obtain⟨hkl',hks'⟩:=hb0.kids
   have hcs:=ha.cons
   simp only[PExpr.kids]at hkl hks hkl' hks'
   simp only[PExpr.cons]at hcs
   refine Ret.mk (by simp[qag,qi1 (PExpr.ok _)]) rfl ?_
   have e1:=qr5 c c' hcs.1
   rw[C_fn rfl Tryz.func21 rfl (by kernel_rfl) (m:=59) rfl];simp only[Z3,simprocAttr,Tryz.f21,qgb,PExpr.op,PExpr.name,PExpr.n,PExpr.cons,PExpr.kids,PExpr.same]
   cases h1:o==o'
   ·have g1:(o !=o')=true:=by simp[bne,h1]
    simp only[Z3,simprocAttr,qgb,h1,g1]
   have g1:(o !=o')=false:=by simp[bne,h1]
   cases h2:s==s'
   ·simp only[Z3,simprocAttr,qgb,g1,h2,PExpr.name]
   cases h3:n==n'
   ·have g3:(n !=n')=true:=by simp[bne,h3]
    simp only[Z3,simprocAttr,qgb,g1,h2,h3,g3,PExpr.name,PExpr.n]
   have g3:(n !=n')=false:=by simp[bne,h3]
   cases h4:c==c'
   ·simp only[Z3,simprocAttr,qgb,g1,h2,g3,h4,PExpr.name,PExpr.n,PExpr.cons,e1 _]
   by_cases hlen:k.length=k'.length
   ·simp only[Z3,simprocAttr,qgb,h1,g1,h2,h3,g3,h4,PExpr.name,PExpr.n,PExpr.cons,PExpr.kids,e1 _,hlen,bne_self_eq_false]
    generalize hb:qar PP cmp0 C lpC _=f;generalize hl:lpC f _=r
    obtain⟨ex,s',rfl,h2⟩:=qgz (α:=Nat) hl [4,42,43,44,45,46,47,48,49,50,51,52,53,54,55,56,57,58,59,60] (fun i=>[(5,.int .i64 i)]) (fun i=>i≤k.length) (fun i=>k.length-i) (fun i=>sameL (k.drop i) (k'.drop i))
     (AllPost [4,5,42,43,44,45,46,47,48,49,50,51,52,53,54,55,56,57,58,59,60] [5,42,43,44,45,46,47,48,49,50,51,52,53,54,55,56,57,58,59,60] 4) 0 (wi _) (by simp only[At,ats,wa]) (by
      intro i j H d hi
      clear hl;subst hb
      by_cases hlt:i<k.length
      ·have e1:((i:Int)<(k.length:Int)):=by omega
       have e3:=qg3 k i hlt
       have e4:=qg3 k' i (by omega)
       have e5:=ih k[i] (we hlt) k'[i] (hks _ (we hlt)) (hks' _ (we (by omega)))
       simp only[Z3,simprocAttr,qgb,PExpr.kids,e1,e3,e4,e5 _]
       cases hcc:k[i].same k'[i]
       ·simp only[Z3,simprocAttr]
        exact .inr ⟨_,_,rfl,by simp,.inr ⟨by simp only[qnv k k' i hlt (by omega),hcc,wg],rfl,by simp only[At,ats,wa]⟩⟩
       ·simp only[Z3,simprocAttr,qb2 (show i≤qae by omega)]
        exact .inl ⟨i+1,_,rfl,by simp only[];omega,by simp only[At,ats,wa],by simp only[];omega,by simp only[qnv k k' i hlt (by omega),hcc,wh]⟩
      ·have e1:¬((i:Int)<(k.length:Int)):=by omega
       simp only[Z3,simprocAttr,qgb,PExpr.kids,e1]
       exact .inr ⟨_,_,rfl,by simp,.inl ⟨by simp only[];rw[wc (by omega),wc (by omega)];simp[sameL],rfl,by simp only[At,ats,wa]⟩⟩)
    rw[wd,wd]at h2
    rcases h2 with⟨hr,rfl,h2⟩|⟨hr,rfl,h2⟩
    ·obtain⟨j,H,d,rfl⟩:=h2.elim
     clear hl
     simp only[Z3,simprocAttr,hr]
    ·obtain⟨j,H,d,rfl⟩:=h2.elim
     clear hl
     simp only[Z3,simprocAttr,hr]
   ·have e0:((k.length:Int) !=(k'.length:Int))=true:=by simp;omega
    simp only[Z3,simprocAttr,qgb,g1,h2,g3,h4,PExpr.name,PExpr.n,PExpr.cons,PExpr.kids,e1 _,e0,qo2 k k' hlen]
end Go.Ab
