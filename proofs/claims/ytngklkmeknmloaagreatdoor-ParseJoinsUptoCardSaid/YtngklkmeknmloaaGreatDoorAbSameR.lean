/- The reference: the same items, the same programs. -/
import Derived.Test.YtngklkmeknmloaaGreatDoorAbSameD
import Derived.Test.YtngklkmeknmloaaGreatDoorAbEach
set_option linter.unusedSimpArgs false
set_option linter.unusedVariables false
set_option maxRecDepth 100000
set_option maxHeartbeats 4000000
open Go.Proofs
open Int renaming natCast_zero→wa
open List renaming append_assoc→wb,cons_append→wc,nil_append→wd,drop_eq_nil_of_le→we,getElem_mem→wh,drop_zero→wi,append_nil→wm,mem_singleton→wq
open Bool renaming false_and→wf,and_false→wg,true_and→wj,and_self→wk
open Nat renaming zero_le→wo
namespace Go.Ab
open Go Go.Ab.Tab
theorem qx4 (l m:List PEq) (hl:l.length≤qac) (tk:Tk) (hk:tk= .free∨tk= .full) (hs:∀x∈l,x.Small) (hsm:∀x∈m,x.Small):
 Ret C 97 [.slice (l.map PEq.cells) tk,.slice (m.map PEq.cells) tk] (.bool (qdd PEq.same l m)):=by
 refine Ret.mk (by rcases hk with rfl|rfl<;>rfl) rfl ?_
 by_cases hlen:l.length=m.length
 ·rw[C_fn rfl Tryz.func97 rfl (by kernel_rfl) (m:=41) rfl];simp only[Z3,simprocAttr,Tryz.f97,qoq,ty,hlen,bne_self_eq_false]
  generalize hb:qam PP cmp0 C lpC _=f;generalize hl:lpC f _=r
  obtain⟨ex,s',rfl,h2⟩:=qeg (α:=Nat) hl [4,11,12,13,14,15,16,17,18,19,20,21,22,23,24,25,26,27,28,29,30,31,32,33,34,35,36,37,38,39,40,41,42] (fun i=>[(5,.int .i64 i)]) (fun i=>i≤l.length) (fun i=>l.length-i) (fun i=>qdd PEq.same (l.drop i) (m.drop i))
   (qp2 [4,5,11,12,13,14,15,16,17,18,19,20,21,22,23,24,25,26,27,28,29,30,31,32,33,34,35,36,37,38,39,40,41,42] [5,11,12,13,14,15,16,17,18,19,20,21,22,23,24,25,26,27,28,29,30,31,32,33,34,35,36,37,38,39,40,41,42] 4) 0 (wo _) (by simp only[At,ats,wa]) (by
    intro i j H d hi
    clear hl;subst hb
    by_cases hlt:i<l.length
    ·have e1:((i:Int)<(m.length:Int)):=by omega
     have hlt':i<m.length:=by omega
     have e3:(l.map PEq.cells)[i]? =some (PEq.cells l[i]):=by simp[hlt]
     have e4:(m.map PEq.cells)[i]? =some (PEq.cells m[i]):=by simp[hlt']
     have h1:=hs l[i] (wh hlt)
     have h2:=hsm m[i] (wh hlt')
     have c1:=qh7 l[i].names m[i].names h1.1.1
     have c2:=qu5 l[i].e m[i].e h1.2 h2.2
     have hd:=qi9 PEq.same l m i hlt hlt'
     have hp:PEq.same l[i] m[i]=(l[i].names==m[i].names && l[i].e.same m[i].e):=rfl
     simp only[Z3,simprocAttr,qoq,ty,hlen,e1,e3,e4,c1 _]
     cases hc:l[i].names==m[i].names
     ·simp only[Z3,simprocAttr,qoq,ty,hc]
      exact .inr ⟨_,_,rfl,by simp,.inr ⟨by simp only[hd,hp,hc,wf],rfl,by simp only[At,ats,wa]⟩⟩
     ·simp only[Z3,simprocAttr,qoq,ty,hc,e3,e4,c2 _]
      cases hc2:l[i].e.same m[i].e
      ·simp only[Z3,simprocAttr,qoq,ty,hc2]
       exact .inr ⟨_,_,rfl,by simp,.inr ⟨by simp only[hd,hp,hc,hc2,wf,wg],rfl,by simp only[At,ats,wa]⟩⟩
      ·simp only[Z3,simprocAttr,qoq,ty,hc2,qaz (show i≤qac by omega)]
       exact .inl ⟨i+1,_,rfl,(by simp only[];omega),by simp only[At,ats,wa],by simp only[];omega,by simp only[hd,hp,hc,hc2,wj,wk]⟩
    ·have e1:¬((i:Int)<(m.length:Int)):=by omega
     simp only[Z3,simprocAttr,qoq,ty,hlen,e1]
     exact .inr ⟨_,_,rfl,by simp,.inl ⟨by simp only[];rw[we (by omega),we (by omega)];rfl,rfl,by simp only[At,ats,wa]⟩⟩)
  rw[wi,wi]at h2
  rcases h2 with⟨hr,rfl,h2⟩|⟨hr,rfl,h2⟩
  ·obtain⟨j,H,d,rfl⟩:=h2.elim
   clear hl
   simp only[Z3,simprocAttr,hr]
  ·obtain⟨j,H,d,rfl⟩:=h2.elim
   clear hl
   simp only[Z3,simprocAttr,hr]
 ·have e0:((l.length:Int) !=(m.length:Int))=true:=by simp;omega
  rw[C_fn rfl Tryz.func97 rfl (by kernel_rfl) (m:=41) rfl];simp only[Z3,simprocAttr,Tryz.f97,qoq,ty,e0,qiw PEq.same l m hlen]
end Go.Ab
namespace Go.Ab
open Go Go.Ab.Tab
theorem qqa {α:Type} (l m:List α) (h:¬l.length=m.length):((l.length:Int) !=(m.length:Int))=true:=by simp;omega
theorem qn5 {α:Type} (l m:List α) (h:l.length=m.length):((l.length:Int) !=(m.length:Int))=false:=by simp[h]
theorem nq0 (a:Nat):((0:Nat)==a+1+1)=false:=by simp
theorem nq1 (a:Nat):((1:Nat)==a+1+1)=false:=by simp
theorem nq2 (a:Nat):((0:Nat)==a+1+1+1)=false:=by simp
theorem nq3 (a:Nat):((1:Nat)==a+1+1+1)=false:=by simp
theorem nq4 (a:Nat):((a+1+1+1:Nat)==a+1+1)=false:=by simp
theorem nq5 (a:Nat):((a+1+1:Nat)==a+1+1+1)=false:=by simp
abbrev late:=Ji @qzg (Ji @ct_nil (Ji @ct_cons (Ji @nq0 (Ji @nq1 (Ji @nq2 (Ji @nq3 (Ji @nq4 (Ji @nq5 (Ji @Bool.or_false @Bool.not_false)))))))))
theorem qbk (a b:Nat):decide (a+1<a+(b+1+1))=true:=decide_eq_true (by omega)
theorem qbl (a b:Nat):decide (a<a+(b+1+1))=true:=decide_eq_true (by omega)
theorem qbm (a b:Nat):decide (a+b≤a+(b+1))=true:=decide_eq_true (by omega)
theorem qbn (a b c:Nat):decide (a+b<a+(b+(c+1+1)))=true:=decide_eq_true (by omega)
theorem qbo (a b c:Nat):decide (a+(b+1)<a+(b+(c+1+1)))=true:=decide_eq_true (by omega)
theorem q3t (a b:PItem) (sa:a.Small) (sb:b.Small):Ret C 47 [.agg a.cells,.agg b.cells] (.bool (a.same b)):=by
 refine Ret.mk (by simp[qad,refs,a.norefs,b.norefs]) rfl ?_
 have e1:Ret C 97 [.slice [a.eq.cells] .full,.slice [b.eq.cells] .full] (.bool (a.eq.same b.eq && true)):=qx4 [a.eq] [b.eq] (by simp[qac]) .full (.inr rfl) (fun x hx=>by obtain rfl:=wq.1 hx;exact sa.1) (fun x hx=>by obtain rfl:=wq.1 hx;exact sb.1)
 have hl1:=sa.2.1
 have es:a.same b=(a.eq.same b.eq && qdd PState.same a.states b.states):=rfl
 rw[es]
 rw[C_fn rfl Tryz.func47 rfl (by kernel_rfl) (m:=99) rfl];simp only[Z3,simprocAttr,Tryz.f47,qfh,ty,rows,e1 _]
 cases h0:a.eq.same b.eq
 ·simp only[Z3,simprocAttr,qfh,ty,rows,qbk,qbl,qbm,qbn,qbo,late,h0]
 by_cases hlen:a.states.length=b.states.length
 rotate_left
 ·have hn:=qqa _ _ hlen
  simp only[Z3,simprocAttr,qfh,ty,rows,qbk,qbl,qbm,qbn,qbo,late,h0,hn,qiw PState.same a.states b.states hlen]
 have hn:=qn5 _ _ hlen
 simp only[Z3,simprocAttr,qfh,ty,rows,qbk,qbl,qbm,qbn,qbo,late,h0,hn]
 generalize hba:qam PP cmp0 C lpC _=fa;generalize hla:lpC fa _=ra
 obtain⟨exa,sa,rfl,h2a⟩:=qeg (α:=Nat) hla [4,6,7,8,26,27,28,29,30,31,32,33,34,35,36,37,38,39,40,41,42,43,44,45,46,47,48,49,50,51,52,53,54,55,56,57,58,59,60,61,62,63,64,65,66,67,68,69,70,71,72,73,74,75,76,77,78,79,80,81,82,83,84,85,86,87,88,89,90,91,92,93,94,95,96,97,98,99,100] (fun i=>[(5,.int .i64 i)]) (fun i=>i≤a.states.length) (fun i=>a.states.length-i) (fun i=>qdd PState.same (a.states.drop i) (b.states.drop i))
  (qhw 0 [4,5,6,7,8,26,27,28,29,30,31,32,33,34,35,36,37,38,39,40,41,42,43,44,45,46,47,48,49,50,51,52,53,54,55,56,57,58,59,60,61,62,63,64,65,66,67,68,69,70,71,72,73,74,75,76,77,78,79,80,81,82,83,84,85,86,87,88,89,90,91,92,93,94,95,96,97,98,99,100] [5,6,7,8,26,27,28,29,30,31,32,33,34,35,36,37,38,39,40,41,42,43,44,45,46,47,48,49,50,51,52,53,54,55,56,57,58,59,60,61,62,63,64,65,66,67,68,69,70,71,72,73,74,75,76,77,78,79,80,81,82,83,84,85,86,87,88,89,90,91,92,93,94,95,96,97,98,99,100] 4) 0 (wo _) (At.of [] (by simp only[ats,wa]) (by simp only[wm])) (by
   intro ia ja Ha da hia
   clear hla;subst hba
   by_cases hlta:ia<a.states.length
   ·have e1a:((ia:Int)<(a.states.length:Int)):=by omega
    have e2a:((ia:Int)<(b.states.length:Int)):=by omega
    have hlua:ia<b.states.length:=by omega
    obtain⟨xa,hxa⟩:∃yy,yy=a.states[ia]:=⟨_,rfl⟩
    obtain⟨ya,hya⟩:∃yy,yy=b.states[ia]:=⟨_,rfl⟩
    have e3a:(a.states.map PState.cells)[ia]? =some (PState.cells xa):=by simp[hlta,hxa]
    have e4a:(b.states.map PState.cells)[ia]? =some (PState.cells ya):=by simp[hlua,hya]
    have hma:xa∈a.states:=by rw[hxa];exact wh hlta
    have hna:ya∈b.states:=by rw[hya];exact wh hlua
    have hda:=qi9 PState.same a.states b.states ia hlta hlua
    rw[←hxa,←hya]at hda
    have hsa:=sa.2.2 xa hma
    have hsb:=sb.2.2 ya hna
    have hl2:=hsa.2.1
    have hl3:=hsa.2.2.2.1
    have k1:=qx4 xa.eqs ya.eqs hl2 .free (.inl rfl) hsa.2.2.1 hsb.2.2.1
    have hp:PState.same xa ya=(xa.name==ya.name && qdd PEq.same xa.eqs ya.eqs && qdd PWay.same xa.ways ya.ways):=rfl
    simp only[Z3,simprocAttr,qfh,ty,rows,qbk,qbl,qbm,qbn,qbo,late,e1a,e2a,e3a,e4a,k1 _]
    cases h5:xa.name==ya.name
    ·simp only[Z3,simprocAttr,qfh,ty,rows,qbk,qbl,qbm,qbn,qbo,late,bne,h5]
     exact .inr ⟨_,_,rfl,by simp,.inr ⟨by simp only[hda,hp,h5,wf,wg],rfl,At.of _ (by simp only[ats,wa]) (by simp only[wc,wb,wd];rfl)⟩⟩
    simp only[Z3,simprocAttr,qfh,ty,rows,qbk,qbl,qbm,qbn,qbo,late,bne,h5,k1 _]
    cases h6:qdd PEq.same xa.eqs ya.eqs
    ·simp only[Z3,simprocAttr,qfh,ty,rows,qbk,qbl,qbm,qbn,qbo,late,h6]
     exact .inr ⟨_,_,rfl,by simp,.inr ⟨by simp only[hda,hp,h5,h6,wf,wg],rfl,At.of _ (by simp only[ats,wa]) (by simp only[wc,wb,wd];rfl)⟩⟩
    by_cases hlenb:xa.ways.length=ya.ways.length
    rotate_left
    ·have hnb:=qqa _ _ hlenb
     simp only[Z3,simprocAttr,qfh,ty,rows,qbk,qbl,qbm,qbn,qbo,late,h6,hnb]
     exact .inr ⟨_,_,rfl,by simp,.inr ⟨by simp only[hda,hp,h5,h6,qiw PWay.same xa.ways ya.ways hlenb,wf,wg],rfl,At.of _ (by simp only[ats,wa]) (by simp only[wc,wb,wd];rfl)⟩⟩
    have hnb:=qn5 _ _ hlenb
    simp only[Z3,simprocAttr,qfh,ty,rows,qbk,qbl,qbm,qbn,qbo,late,h6,hnb]
    generalize hbb:qam PP cmp0 C lpC _=fb;generalize hlb:lpC fb _=rb
    obtain⟨exb,sb,rfl,h2b⟩:=qeg (α:=Nat) hlb [4,65,66,67,68,69,70,71,72,73,74,75,76,77,78,79,80,81,82,83,84,85,86,87,88,89,90,91,92,93,94,95,96,97,98,99,100] (fun i=>[(8,.int .i64 i)]) (fun i=>i≤xa.ways.length) (fun i=>xa.ways.length-i) (fun i=>qdd PWay.same (xa.ways.drop i) (ya.ways.drop i))
     (qhw 2 [4,8,65,66,67,68,69,70,71,72,73,74,75,76,77,78,79,80,81,82,83,84,85,86,87,88,89,90,91,92,93,94,95,96,97,98,99,100] [8,65,66,67,68,69,70,71,72,73,74,75,76,77,78,79,80,81,82,83,84,85,86,87,88,89,90,91,92,93,94,95,96,97,98,99,100] 4) 0 (wo _) (At.of [] (by simp only[ats,wa]) (by simp only[wm])) (by
      intro ib jb Hb db hib
      clear hlb;subst hbb
      by_cases hltb:ib<xa.ways.length
      ·have e1b:((ib:Int)<(xa.ways.length:Int)):=by omega
       have e2b:((ib:Int)<(ya.ways.length:Int)):=by omega
       have hlub:ib<ya.ways.length:=by omega
       obtain⟨xb,hxb⟩:∃yy,yy=xa.ways[ib]:=⟨_,rfl⟩
       obtain⟨yb,hyb⟩:∃yy,yy=ya.ways[ib]:=⟨_,rfl⟩
       have e3b:(xa.ways.map PWay.cells)[ib]? =some (PWay.cells xb):=by simp[hltb,hxb]
       have e4b:(ya.ways.map PWay.cells)[ib]? =some (PWay.cells yb):=by simp[hlub,hyb]
       have hmb:xb∈xa.ways:=by rw[hxb];exact wh hltb
       have hnb':yb∈ya.ways:=by rw[hyb];exact wh hlub
       have hdb:=qi9 PWay.same xa.ways ya.ways ib hltb hlub
       rw[←hxb,←hyb]at hdb
       have hwa:=hsa.2.2.2.2 xb hmb
       have hwb:=hsb.2.2.2.2 yb hnb'
       have k2:=qu5 xb.cond yb.cond hwa.1 hwb.1
       have hpb:PWay.same xb yb=(xb.to==yb.to && xb.cond.same yb.cond):=rfl
       simp only[Z3,simprocAttr,qfh,ty,rows,qbk,qbl,qbm,qbn,qbo,late,e1b,e2b,e3b,e4b,k2 _]
       cases h7:xb.to==yb.to
       ·simp only[Z3,simprocAttr,qfh,ty,rows,qbk,qbl,qbm,qbn,qbo,late,bne,h7]
        exact .inr ⟨_,_,rfl,by simp,.inr ⟨by simp only[hdb,hpb,h7,wf,wg],rfl,At.of _ (by simp only[ats,wa]) (by simp only[wc,wb,wd];rfl)⟩⟩
       simp only[Z3,simprocAttr,qfh,ty,rows,qbk,qbl,qbm,qbn,qbo,late,bne,h7,k2 _,e3b,e4b]
       cases h8:xb.cond.same yb.cond
       ·simp only[Z3,simprocAttr,qfh,ty,rows,qbk,qbl,qbm,qbn,qbo,late,h8]
        exact .inr ⟨_,_,rfl,by simp,.inr ⟨by simp only[hdb,hpb,h7,h8,wf,wg],rfl,At.of _ (by simp only[ats,wa]) (by simp only[wc,wb,wd];rfl)⟩⟩
       ·simp only[Z3,simprocAttr,qfh,ty,rows,qbk,qbl,qbm,qbn,qbo,late,h8,qaz (show ib≤qac by omega)]
        exact .inl ⟨ib+1,_,rfl,(by simp only[];omega),At.of _ (by simp only[ats,wa]) (by simp only[wc,wb,wd];rfl),by simp only[];omega,by simp only[hdb,hpb,h7,h8,wj,wk]⟩
      ·have e1b:¬((ib:Int)<(xa.ways.length:Int)):=by omega
       simp only[Z3,simprocAttr,qfh,ty,rows,e1b]
       exact .inr ⟨_,_,rfl,by simp,.inl ⟨by simp only[];rw[we (by omega),we (by omega)];rfl,rfl,At.of _ (by simp only[ats,wa]) (by simp only[wc,wb,wd];rfl)⟩⟩)
    rw[wi,wi]at h2b
    rcases h2b with⟨hrb,rfl,h2b⟩|⟨hrb,rfl,h2b⟩
    rotate_left
    ·obtain⟨jb',Hb',db',rfl⟩:=h2b.elim
     clear hlb
     simp only[Z3,simprocAttr,qfh,ty,rows,qbk,qbl,qbm,qbn,qbo,late]
     exact .inr ⟨_,_,rfl,by simp,.inr ⟨by simp only[hda,hp,h5,h6,hrb,wf,wg],rfl,At.of _ (by simp only[ats,wa]) (by simp only[wc,wb,wd];rfl)⟩⟩
    obtain⟨jb',Hb',db',rfl⟩:=h2b.elim
    clear hlb
    simp only[Z3,simprocAttr,qfh,ty,rows,qbk,qbl,qbm,qbn,qbo,late,qaz (show ia≤qac by omega)]
    exact .inl ⟨ia+1,_,rfl,(by simp only[];omega),At.of _ (by simp only[ats,wa]) (by simp only[wc,wb,wd];rfl),by simp only[];omega,by simp only[hda,hp,h5,h6,hrb,wj,wk]⟩
   ·have e1a:¬((ia:Int)<(a.states.length:Int)):=by omega
    simp only[Z3,simprocAttr,qfh,ty,rows,e1a]
    exact .inr ⟨_,_,rfl,by simp,.inl ⟨by simp only[];rw[we (by omega),we (by omega)];rfl,rfl,At.of _ (by simp only[ats,wa]) (by simp only[wc,wb,wd];rfl)⟩⟩)
 rw[wi,wi]at h2a
 rcases h2a with⟨hr1,rfl,h2a⟩|⟨hr1,rfl,h2a⟩
 ·obtain⟨j,H,d,rfl⟩:=h2a.elim
  clear hla
  simp only[Z3,simprocAttr,qfh,ty,rows,qbk,qbl,qbm,qbn,qbo,late,hr1]
 ·obtain⟨j,H,d,rfl⟩:=h2a.elim
  clear hla
  simp only[Z3,simprocAttr,qfh,ty,rows,qbk,qbl,qbm,qbn,qbo,late,hr1]
theorem rsame_c (a b:PProg) (sa:a.Small) (sb:b.Small):Ret C 18 [.agg a.cells,.agg b.cells] (.bool (a.same b)):=by
 refine Ret.mk (by simp[qad,refs,a.norefs,b.norefs]) rfl ?_
 have hl1:=sa.1
 have hl2:=sa.2.2.1
 have es:a.same b=(qdd PEnum.same a.enums b.enums && qdd PNode.same a.nodes b.nodes):=rfl
 rw[es]
 rw[C_fn rfl Tryz.func18 rfl (by kernel_rfl) (m:=134) rfl];simp only[Z3,simprocAttr,Tryz.f18,qc7,ty]
 by_cases hlen:a.enums.length=b.enums.length
 rotate_left
 ·have hn:=qqa _ _ hlen
  simp only[Z3,simprocAttr,qc7,ty,rows,qbk,qbl,qbm,qbn,qbo,late,hn,qiw PEnum.same a.enums b.enums hlen]
 have hn:=qn5 _ _ hlen
 simp only[Z3,simprocAttr,qc7,ty,rows,qbk,qbl,qbm,qbn,qbo,late,hn]
 by_cases hlen2:a.nodes.length=b.nodes.length
 rotate_left
 ·have hn:=qqa _ _ hlen2
  simp only[Z3,simprocAttr,qc7,ty,rows,qbk,qbl,qbm,qbn,qbo,late,hn,qiw PNode.same a.nodes b.nodes hlen2]
 have hn2:=qn5 _ _ hlen2
 simp only[Z3,simprocAttr,qc7,ty,rows,qbk,qbl,qbm,qbn,qbo,late,hn2]
 generalize hba:qam PP cmp0 C lpC _=fa;generalize hla:lpC fa _=ra
 obtain⟨exa,sa,rfl,h2a⟩:=qeg (α:=Nat) hla [4,26,27,28,29,30,31,32,33,34,35,36,37,38,39,40,41,42,43,44,45,46,47,48,49,50,51,52,53,54,55,56,57,58,59,60,61] (fun i=>[(5,.int .i64 i)]) (fun i=>i≤a.enums.length) (fun i=>a.enums.length-i) (fun i=>qdd PEnum.same (a.enums.drop i) (b.enums.drop i))
  (qhw 0 [4,5,26,27,28,29,30,31,32,33,34,35,36,37,38,39,40,41,42,43,44,45,46,47,48,49,50,51,52,53,54,55,56,57,58,59,60,61] [5,26,27,28,29,30,31,32,33,34,35,36,37,38,39,40,41,42,43,44,45,46,47,48,49,50,51,52,53,54,55,56,57,58,59,60,61] 4) 0 (wo _) (At.of [] (by simp only[ats,wa]) (by simp only[wm])) (by
   intro ia ja Ha da hia
   clear hla;subst hba
   by_cases hlta:ia<a.enums.length
   ·have e1a:((ia:Int)<(a.enums.length:Int)):=by omega
    have e2a:((ia:Int)<(b.enums.length:Int)):=by omega
    have hlua:ia<b.enums.length:=by omega
    obtain⟨xa,hxa⟩:∃yy,yy=a.enums[ia]:=⟨_,rfl⟩
    obtain⟨ya,hya⟩:∃yy,yy=b.enums[ia]:=⟨_,rfl⟩
    have e3a:(a.enums.map PEnum.cells)[ia]? =some (PEnum.cells xa):=by simp[hlta,hxa]
    have e4a:(b.enums.map PEnum.cells)[ia]? =some (PEnum.cells ya):=by simp[hlua,hya]
    have hma:xa∈a.enums:=by rw[hxa];exact wh hlta
    have hna:ya∈b.enums:=by rw[hya];exact wh hlua
    have hda:=qi9 PEnum.same a.enums b.enums ia hlta hlua
    rw[←hxa,←hya]at hda
    have hsa:=sa.2.1 xa hma
    have hsb:=sb.2.1 ya hna
    have k1:=qh7 xa.cons ya.cons hsa.2.1
    have hp:PEnum.same xa ya=(xa.name==ya.name && xa.cons==ya.cons):=rfl
    simp only[Z3,simprocAttr,qc7,ty,rows,qbk,qbl,qbm,qbn,qbo,late,e1a,e2a,e3a,e4a,k1 _]
    cases h5:xa.name==ya.name
    ·simp only[Z3,simprocAttr,qc7,ty,rows,qbk,qbl,qbm,qbn,qbo,late,bne,h5]
     exact .inr ⟨_,_,rfl,by simp,.inr ⟨by simp only[hda,hp,h5,wf,wg],rfl,At.of _ (by simp only[ats,wa]) (by simp only[wc,wb,wd];rfl)⟩⟩
    simp only[Z3,simprocAttr,qc7,ty,rows,qbk,qbl,qbm,qbn,qbo,late,bne,h5,k1 _,e3a,e4a]
    cases h6:xa.cons==ya.cons
    ·simp only[Z3,simprocAttr,qc7,ty,rows,qbk,qbl,qbm,qbn,qbo,late,h6]
     exact .inr ⟨_,_,rfl,by simp,.inr ⟨by simp only[hda,hp,h5,h6,wf,wg],rfl,At.of _ (by simp only[ats,wa]) (by simp only[wc,wb,wd];rfl)⟩⟩
    ·simp only[Z3,simprocAttr,qc7,ty,rows,qbk,qbl,qbm,qbn,qbo,late,h6,qaz (show ia≤qac by omega)]
     exact .inl ⟨ia+1,_,rfl,(by simp only[];omega),At.of _ (by simp only[ats,wa]) (by simp only[wc,wb,wd];rfl),by simp only[];omega,by simp only[hda,hp,h5,h6,wj,wk]⟩
   ·have e1a:¬((ia:Int)<(a.enums.length:Int)):=by omega
    simp only[Z3,simprocAttr,qc7,ty,rows,e1a]
    exact .inr ⟨_,_,rfl,by simp,.inl ⟨by simp only[];rw[we (by omega),we (by omega)];rfl,rfl,At.of _ (by simp only[ats,wa]) (by simp only[wc,wb,wd];rfl)⟩⟩)
 rw[wi,wi]at h2a
 rcases h2a with⟨hr1,rfl,h2a⟩|⟨hr1,rfl,h2a⟩
 rotate_left
 ·obtain⟨j,H,d,rfl⟩:=h2a.elim
  clear hla
  simp only[Z3,simprocAttr,qc7,ty,rows,qbk,qbl,qbm,qbn,qbo,late,hr1]
 obtain⟨j,H,d,rfl⟩:=h2a.elim
 clear hla
 simp only[Z3,simprocAttr,qc7,ty,rows,qbk,qbl,qbm,qbn,qbo,late,hr1]
 generalize hbc:qam PP cmp0 C lpC _=fc;generalize hlc:lpC fc _=rc
 obtain⟨exc,sc,rfl,h2c⟩:=qeg (α:=Nat) hlc [4,7,8,9,62,63,64,65,66,67,68,69,70,71,72,73,74,75,76,77,78,79,80,81,82,83,84,85,86,87,88,89,90,91,92,93,94,95,96,97,98,99,100,101,102,103,104,105,106,107,108,109,110,111,112,113,114,115,116,117,118,119,120,121,122,123,124,125,126,127,128,129,130,131,132,133,134,135] (fun i=>[(6,.int .i64 i)]) (fun i=>i≤a.nodes.length) (fun i=>a.nodes.length-i) (fun i=>qdd PNode.same (a.nodes.drop i) (b.nodes.drop i))
  (qhw 2 [4,6,7,8,9,62,63,64,65,66,67,68,69,70,71,72,73,74,75,76,77,78,79,80,81,82,83,84,85,86,87,88,89,90,91,92,93,94,95,96,97,98,99,100,101,102,103,104,105,106,107,108,109,110,111,112,113,114,115,116,117,118,119,120,121,122,123,124,125,126,127,128,129,130,131,132,133,134,135] [6,7,8,9,62,63,64,65,66,67,68,69,70,71,72,73,74,75,76,77,78,79,80,81,82,83,84,85,86,87,88,89,90,91,92,93,94,95,96,97,98,99,100,101,102,103,104,105,106,107,108,109,110,111,112,113,114,115,116,117,118,119,120,121,122,123,124,125,126,127,128,129,130,131,132,133,134,135] 4) 0 (wo _) (At.of [] (by simp only[ats,wa]) (by simp only[wm])) (by
   intro ic jc Hc dc hic
   clear hlc;subst hbc
   by_cases hltc:ic<a.nodes.length
   ·have e1c:((ic:Int)<(a.nodes.length:Int)):=by omega
    have e2c:((ic:Int)<(b.nodes.length:Int)):=by omega
    have hluc:ic<b.nodes.length:=by omega
    obtain⟨xc,hxc⟩:∃yy,yy=a.nodes[ic]:=⟨_,rfl⟩
    obtain⟨yc,hyc⟩:∃yy,yy=b.nodes[ic]:=⟨_,rfl⟩
    have e3c:(a.nodes.map PNode.cells)[ic]? =some (PNode.cells xc):=by simp[hltc,hxc]
    have e4c:(b.nodes.map PNode.cells)[ic]? =some (PNode.cells yc):=by simp[hluc,hyc]
    have hmc:xc∈a.nodes:=by rw[hxc];exact wh hltc
    have hnc:yc∈b.nodes:=by rw[hyc];exact wh hluc
    have hdc:=qi9 PNode.same a.nodes b.nodes ic hltc hluc
    rw[←hxc,←hyc]at hdc
    have hsc:=sa.2.2.2 xc hmc
    have hsd:=sb.2.2.2 yc hnc
    have hl3:=hsc.2.2.2.2.1
    have k1:=qh7 xc.funs yc.funs hsc.2.1.1
    have k2:=qh7 xc.ins yc.ins hsc.2.2.1.1
    have k3:=qh7 xc.outs yc.outs hsc.2.2.2.1.1
    have hp:PNode.same xc yc=(xc.name==yc.name && xc.funs==yc.funs && xc.ins==yc.ins && xc.outs==yc.outs && qdd PItem.same xc.items yc.items):=rfl
    simp only[Z3,simprocAttr,qc7,ty,rows,qbk,qbl,qbm,qbn,qbo,late,e1c,e2c,e3c,e4c,k1 _,k2 _,k3 _]
    cases h5:xc.name==yc.name
    ·simp only[Z3,simprocAttr,qc7,ty,rows,qbk,qbl,qbm,qbn,qbo,late,bne,h5]
     exact .inr ⟨_,_,rfl,by simp,.inr ⟨by simp only[hdc,hp,h5,wf,wg],rfl,At.of _ (by simp only[ats,wa]) (by simp only[wc,wb,wd];rfl)⟩⟩
    simp only[Z3,simprocAttr,qc7,ty,rows,qbk,qbl,qbm,qbn,qbo,late,bne,h5,k1 _]
    cases h6:xc.funs==yc.funs
    ·simp only[Z3,simprocAttr,qc7,ty,rows,qbk,qbl,qbm,qbn,qbo,late,h6]
     exact .inr ⟨_,_,rfl,by simp,.inr ⟨by simp only[hdc,hp,h5,h6,wf,wg],rfl,At.of _ (by simp only[ats,wa]) (by simp only[wc,wb,wd];rfl)⟩⟩
    simp only[Z3,simprocAttr,qc7,ty,rows,qbk,qbl,qbm,qbn,qbo,late,h6,k2 _]
    cases h7:xc.ins==yc.ins
    ·simp only[Z3,simprocAttr,qc7,ty,rows,qbk,qbl,qbm,qbn,qbo,late,h7]
     exact .inr ⟨_,_,rfl,by simp,.inr ⟨by simp only[hdc,hp,h5,h6,h7,wf,wg],rfl,At.of _ (by simp only[ats,wa]) (by simp only[wc,wb,wd];rfl)⟩⟩
    simp only[Z3,simprocAttr,qc7,ty,rows,qbk,qbl,qbm,qbn,qbo,late,h7,k3 _]
    cases h8:xc.outs==yc.outs
    ·simp only[Z3,simprocAttr,qc7,ty,rows,qbk,qbl,qbm,qbn,qbo,late,h8]
     exact .inr ⟨_,_,rfl,by simp,.inr ⟨by simp only[hdc,hp,h5,h6,h7,h8,wf,wg],rfl,At.of _ (by simp only[ats,wa]) (by simp only[wc,wb,wd];rfl)⟩⟩
    by_cases hlend:xc.items.length=yc.items.length
    rotate_left
    ·have hnd:=qqa _ _ hlend
     simp only[Z3,simprocAttr,qc7,ty,rows,qbk,qbl,qbm,qbn,qbo,late,h8,hnd]
     exact .inr ⟨_,_,rfl,by simp,.inr ⟨by simp only[hdc,hp,h5,h6,h7,h8,qiw PItem.same xc.items yc.items hlend,wf,wg],rfl,At.of _ (by simp only[ats,wa]) (by simp only[wc,wb,wd];rfl)⟩⟩
    have hnd:=qn5 _ _ hlend
    simp only[Z3,simprocAttr,qc7,ty,rows,qbk,qbl,qbm,qbn,qbo,late,h8,hnd]
    generalize hbd:qam PP cmp0 C lpC _=fd;generalize hld:lpC fd _=rd
    obtain⟨exd,sd,rfl,h2d⟩:=qeg (α:=Nat) hld [4,117,118,119,120,121,122,123,124,125,126,127,128,129,130,131,132,133,134,135] (fun i=>[(9,.int .i64 i)]) (fun i=>i≤xc.items.length) (fun i=>xc.items.length-i) (fun i=>qdd PItem.same (xc.items.drop i) (yc.items.drop i))
     (qhw 4 [4,9,117,118,119,120,121,122,123,124,125,126,127,128,129,130,131,132,133,134,135] [9,117,118,119,120,121,122,123,124,125,126,127,128,129,130,131,132,133,134,135] 4) 0 (wo _) (At.of [] (by simp only[ats,wa]) (by simp only[wm])) (by
      intro id jd Hd dd hid
      clear hld;subst hbd
      by_cases hltd:id<xc.items.length
      ·have e1d:((id:Int)<(xc.items.length:Int)):=by omega
       have e2d:((id:Int)<(yc.items.length:Int)):=by omega
       have hlud:id<yc.items.length:=by omega
       obtain⟨xd,hxd⟩:∃yy,yy=xc.items[id]:=⟨_,rfl⟩
       obtain⟨yd,hyd⟩:∃yy,yy=yc.items[id]:=⟨_,rfl⟩
       have e3d:(xc.items.map PItem.cells)[id]? =some (PItem.cells xd):=by simp[hltd,hxd]
       have e4d:(yc.items.map PItem.cells)[id]? =some (PItem.cells yd):=by simp[hlud,hyd]
       have hmd:xd∈xc.items:=by rw[hxd];exact wh hltd
       have hnd':yd∈yc.items:=by rw[hyd];exact wh hlud
       have hdd:=qi9 PItem.same xc.items yc.items id hltd hlud
       rw[←hxd,←hyd]at hdd
       have k4:=q3t xd yd (hsc.2.2.2.2.2 xd hmd) (hsd.2.2.2.2.2 yd hnd')
       simp only[Z3,simprocAttr,qc7,ty,rows,qbk,qbl,qbm,qbn,qbo,late,e1d,e2d,e3d,e4d,k4 _]
       cases h9:xd.same yd
       ·simp only[Z3,simprocAttr,qc7,ty,rows,qbk,qbl,qbm,qbn,qbo,late,h9]
        exact .inr ⟨_,_,rfl,by simp,.inr ⟨by simp only[hdd,h9,wf,wg],rfl,At.of _ (by simp only[ats,wa]) (by simp only[wc,wb,wd];rfl)⟩⟩
       ·simp only[Z3,simprocAttr,qc7,ty,rows,qbk,qbl,qbm,qbn,qbo,late,h9,qaz (show id≤qac by omega)]
        exact .inl ⟨id+1,_,rfl,(by simp only[];omega),At.of _ (by simp only[ats,wa]) (by simp only[wc,wb,wd];rfl),by simp only[];omega,by simp only[hdd,h9,wj,wk]⟩
      ·have e1d:¬((id:Int)<(xc.items.length:Int)):=by omega
       simp only[Z3,simprocAttr,qc7,ty,rows,e1d]
       exact .inr ⟨_,_,rfl,by simp,.inl ⟨by simp only[];rw[we (by omega),we (by omega)];rfl,rfl,At.of _ (by simp only[ats,wa]) (by simp only[wc,wb,wd];rfl)⟩⟩)
    rw[wi,wi]at h2d
    rcases h2d with⟨hrd,rfl,h2d⟩|⟨hrd,rfl,h2d⟩
    rotate_left
    ·obtain⟨jd',Hd',dd',rfl⟩:=h2d.elim
     clear hld
     simp only[Z3,simprocAttr,qc7,ty,rows,qbk,qbl,qbm,qbn,qbo,late]
     exact .inr ⟨_,_,rfl,by simp,.inr ⟨by simp only[hdc,hp,h5,h6,h7,h8,hrd,wf,wg],rfl,At.of _ (by simp only[ats,wa]) (by simp only[wc,wb,wd];rfl)⟩⟩
    obtain⟨jd',Hd',dd',rfl⟩:=h2d.elim
    clear hld
    simp only[Z3,simprocAttr,qc7,ty,rows,qbk,qbl,qbm,qbn,qbo,late,qaz (show ic≤qac by omega)]
    exact .inl ⟨ic+1,_,rfl,(by simp only[];omega),At.of _ (by simp only[ats,wa]) (by simp only[wc,wb,wd];rfl),by simp only[];omega,by simp only[hdc,hp,h5,h6,h7,h8,hrd,wj,wk]⟩
   ·have e1c:¬((ic:Int)<(a.nodes.length:Int)):=by omega
    simp only[Z3,simprocAttr,qc7,ty,rows,e1c]
    exact .inr ⟨_,_,rfl,by simp,.inl ⟨by simp only[];rw[we (by omega),we (by omega)];rfl,rfl,At.of _ (by simp only[ats,wa]) (by simp only[wc,wb,wd];rfl)⟩⟩)
 rw[wi,wi]at h2c
 rcases h2c with⟨hr2,rfl,h2c⟩|⟨hr2,rfl,h2c⟩
 ·obtain⟨j,H,d,rfl⟩:=h2c.elim
  clear hlc
  simp only[Z3,simprocAttr,qc7,ty,rows,qbk,qbl,qbm,qbn,qbo,late,hr2]
 ·obtain⟨j,H,d,rfl⟩:=h2c.elim
  clear hlc
  simp only[Z3,simprocAttr,qc7,ty,rows,qbk,qbl,qbm,qbn,qbo,late,hr2]
end Go.Ab
