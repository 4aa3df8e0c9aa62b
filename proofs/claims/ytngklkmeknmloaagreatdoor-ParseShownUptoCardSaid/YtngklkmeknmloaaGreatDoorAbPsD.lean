/- The parser: lists of arms. -/
import Derived.Test.YtngklkmeknmloaaGreatDoorAbPrX
import Derived.Test.YtngklkmeknmloaaGreatDoorAbInv
set_option linter.unusedSimpArgs false
set_option linter.unusedVariables false
set_option maxRecDepth 100000
set_option maxHeartbeats 4000000
open Go.Proofs
open List renaming getElem?_eq_some_iff→wa,length_cons→wb,append_assoc→wc,nil_append→wd,cons_append→we,tail_cons→wf,getElem?_set_self→wg,getElem?_set_ne→wi,getElem?_cons_succ→wj,getElem?_cons_zero→wk,length_nil→wm,getElem?_eq_none→wo,append_nil→ww,length_append→w6,not_mem_nil→w7,mem_cons→w8,mem_map→w9,ext_getElem?→waa
open Bool renaming false_eq_true→wh,not_false→wq,eq_false_iff→wu,and_true→wv,or_true→wz
open Nat renaming lt_one_iff→wt,lt_or_ge→wca
open Int renaming natCast_zero→wba
namespace Go.Ab
open Go Go.Ab.Tab
def PExpr.cellsT (e:PExpr) (t:Tk):List AVal:=[.int .i64 e.op,.str e.name,.int .i64 e.n,.slice (e.cons.map fun s=>[.str s]) t,.slice (e.kids.map PExpr.cells) t]
theorem qv4 (e:PExpr):e.cells=e.cellsT .free:=by rw[e.cells_eq];rfl
theorem qlx (e:PExpr) (t:Tk):(e.cellsT t).map qbk=e.cells:=by rw[e.cells_eq];rfl
theorem qew (a b:PExpr) (t:Tk):kidsV 2 [.agg [.int .i64 a.op,.str a.name,.int .i64 a.n,.slice (a.cons.map fun s=>[.str s]) t,.slice (a.kids.map PExpr.cells) t],.agg b.cells]=some (.val (.slice [a.cells,b.cells] .full) .same):=by
 rw[a.cells_eq,b.cells_eq];rfl
theorem qh4 {c:Prop} [Decidable c] {a b k:Nat} (h1:a≤k) (h2:b≤k):(if c then a else b)≤k:=by split<;>assumption
theorem bind_le (s:Str):qa7 s≤7:=by
 unfold qa7
 refine qh4 (by decide) ?_
 refine qh4 (by decide) ?_
 refine qh4 (by decide) ?_
 refine qh4 (by decide) ?_
 refine qh4 (by decide) ?_
 refine qh4 (by decide) ?_
 refine qh4 (by decide) ?_
 refine qh4 (by decide) ?_
 refine qh4 (by decide) ?_
 refine qh4 (by decide) ?_
 refine qh4 (by decide) ?_
 refine qh4 (by decide) ?_
 exact qh4 (by decide) (by decide)
theorem qty {t:PTok} {r:List PTok} (h:qa7 (qaw (t::r))≠0):t.sort≠6:=by
 intro h6
 apply h
 simp only[qaw,h6]
 rfl
theorem qwu {R:Rd} (hR:HypE R) {o least:Nat} (hl:0<least) {e:PExpr} {ts':List PTok}:∀(n most:Nat) (left:PExpr) (ts:List PTok),TsOk ts→qd7 R o least n most left ts= .ok e ts'→TsOk ts'
 |0,_,_,_,_,h=>by cases h
 |n+1,most,left,ts,hT,h=>by
  obtain⟨t,r,rfl⟩:=hT.ne
  simp only[qd7]at h
  split at h
  ·cases h;exact hT
  ·rename_i hb
   have hne:qa7 (qaw (t::r))≠0:=by omega
   have hTr:TsOk r:=hT.tail (qty hne)
   split at h
   ·obtain⟨k,ts1,hk,h⟩:=PR.bind_ok h
    cases h
    exact(hR _ _ _ _ _ hTr hk).1
   ·split at h
    ·obtain⟨k,ts1,hk,h⟩:=PR.bind_ok h
     exact qwu hR hl n _ _ _ (hR _ _ _ _ _ hTr hk).1 h
    ·obtain⟨k,ts1,hk,h⟩:=PR.bind_ok h
     exact qwu hR hl n _ _ _ (hR _ _ _ _ _ hTr hk).1 h
theorem unary_c {o:Nat} {ts ts':List PTok} {e:PExpr} (ho:o<100) (hp:RdE 213 [] ts (o+1) e ts'):RdE 151 [] ts o e ts':=by
 obtain⟨E,u1,u2⟩:=hp.m rfl
 have v1:∀H,qai C (.box [.slice (ts.map PTok.cells) .free,.int .i64 ((o:Int)+1)]::H) 213 [.ptr 0 0]=some (.ret (.agg e.cells) (E H)):=u1
 have v2:∀H,(E H).of (.box [.slice (ts.map PTok.cells) .free,.int .i64 ((o:Int)+1)]::H)= .box [.slice (ts'.map PTok.cells) .free,.int .i64 ((o:Int)+1)]::H:=u2
 have w1:qd0 .i64 ((o:Int)+1)=(o:Int)+1:=qib (by omega) (by omega)
 have w2:qd0 .i64 ((o:Int)+1-1)=(o:Int):=by rw[show(o:Int)+1-1=o by omega];exact qib (by omega) (by omega)
 have d1:decide ((100:Int)<(o:Int)+1)=false:=decide_eq_false (by omega)
 unfold RdE
 refine qa9 rfl Tryz.func151 rfl (by kernel_rfl) (m:=27) rfl ?_;simp only[Z3,simprocAttr,Tryz.f151,fx_151,effs,pbox,w1,w2,d1,v1,v2]
 exact qfa (ts:=ts') (d:=o) (.inl rfl) rfl rfl (qit e) rfl rfl
structure InSt where
 n:Nat
 most:Nat
 left:PExpr
 tk:Tk
 ts:List PTok
theorem infix_c {N:Nat} {R:Rd} (hR:HypE R) {o least:Nat} {ts ts1 ts':List PTok} {left e:PExpr} (hpos:0<least) (hT:TsOk ts) (hu:R o 0 ts= .ok left ts1) (hloop:qd7 R o least N 7 left ts1= .ok e ts'):
 RdE 99 [.int .i64 least] ts o e ts':=by
 obtain⟨hT1,ru,_⟩:=hR _ _ _ _ _ hT hu
 obtain⟨E,u1,u2⟩:=(ru rfl).m rfl
 unfold RdE
 refine qa9 rfl Tryz.func99 rfl (by kernel_rfl) (m:=52) rfl ?_;simp only[Z3,simprocAttr,Tryz.f99,qe7,effs,u1,u2]
 generalize hb:qan PP cmp0 C lpC _=f;generalize hl:lpC f _=r
 obtain⟨ex,s',rfl,⟨rfl,tk',h2⟩⟩:=qe2 (α:=InSt) hl [7,8,11,12,13,14,15,16,17,18,19,20,21,22,23,24,25,26,27,28,29,30,31,32,33,34,35,36,37,38,39,40,41,42,43,44,45,46,47,48,49,50,51,52,53] (fun a=>[(6,.int .i64 a.most)]) (fun a=>[.box (pbox a.ts o),.box qa1,.box (a.left.cellsT a.tk)]) (fun a=>TsOk a.ts∧qd7 R o least a.n a.most a.left a.ts= .ok e ts') (fun a=>a.n) (fun _=>())
  (fun ts _ ex s=>ex= .ret∧∃tk,At [6,7,8,11,12,13,14,15,16,17,18,19,20,21,22,23,24,25,26,27,28,29,30,31,32,33,34,35,36,37,38,39,40,41,42,43,44,45,46,47,48,49,50,51,52,53] ts [.box (pbox ts' o),.box (e.cellsT tk)] [] s) ⟨N,7,left,.free,ts1⟩ ⟨hT1,hloop⟩ (by rw[qv4];exact At.of [] (by simp only[ats];rfl) (by simp only[ww];rfl)) (by
   rintro⟨n,most,left,tk,ts⟩ j H d ⟨hTs,hp⟩
   clear hl;subst hb
   simp only at hTs hp ⊢
   cases n with
   |zero=>cases hp
   |succ n=>
    obtain⟨t,r,rfl⟩:=hTs.ne
    simp only[qd7]at hp
    have hbl:=bind_le (qaw (t::r))
    have cb:=bind_c (qaw (t::r))
    by_cases hb1:qa7 (qaw (t::r))<least∨most<qa7 (qaw (t::r))
    ·rw[if_pos hb1]at hp
     cases hp
     by_cases hb2:qa7 (qaw (t::r))<least
     ·have d1:decide (((qa7 (qaw (t::r)):Nat):Int)<(least:Int))=true:=decide_eq_true (by omega)
      simp only[Z3,simprocAttr,effs,qe7,PExpr.cellsT,qa1,qbd,cb _,d1]
      exact .inr ⟨_,_,rfl,by simp,rfl,tk,At.of _ (by simp only[ats,wba]) (by simp only[we,wc,wd];rfl)⟩
     ·have d1:decide (((qa7 (qaw (t::r)):Nat):Int)<(least:Int))=false:=decide_eq_false (by omega)
      have d2:decide ((most:Int)<((qa7 (qaw (t::r)):Nat):Int))=true:=decide_eq_true (by omega)
      simp only[Z3,simprocAttr,effs,qe7,PExpr.cellsT,qa1,qbd,cb _,d1,d2]
      exact .inr ⟨_,_,rfl,by simp,rfl,tk,At.of _ (by simp only[ats,wba]) (by simp only[we,wc,wd];rfl)⟩
    ·rw[if_neg hb1]at hp
     have hne:qa7 (qaw (t::r))≠0:=by omega
     have hTr:=hTs.tail (qty hne)
     have d1:decide (((qa7 (qaw (t::r)):Nat):Int)<(least:Int))=false:=decide_eq_false (by omega)
     have d2:decide ((most:Int)<((qa7 (qaw (t::r)):Nat):Int))=false:=decide_eq_false (by omega)
     obtain⟨Es,s1,s2⟩:=qlv t r o
     by_cases q1:qa7 (qaw (t::r))=1
     ·rw[if_pos q1]at hp
      obtain⟨k,ts2,hk,hp⟩:=PR.bind_ok hp
      cases hp
      obtain⟨_,_,rk⟩:=hR _ _ _ _ _ hTr hk
      have rk':RdE 99 [.int .i64 1] r o k ts':=rk (by omega)
      obtain⟨Ek,y1,y2,y3⟩:=rk'.m3 rfl
      have e1:(((qa7 (qaw (t::r)):Nat):Int)==1)=true:=by rw[q1];rfl
      simp only[Z3,simprocAttr,effs,qe7,PExpr.cellsT,qa1,qbd,cb _,d1,d2,s1,s2,e1,y1,y2,qgs,qew,qmw _ _ _ _]
      rw[qct]
      ·simp only[Z3,simprocAttr,effs,qe7,y2,qmw _ _ _ _]
       exact .inr ⟨_,_,rfl,by simp,rfl,.free,At.of _ (by simp only[ats]<;>rfl) (by simp only[we,wc,wd]<;>rfl)⟩
      ·kernel_rfl
      ·have z2:=y3 (Blk.box qa1::Blk.box (left.cellsT tk)::H) 2 (by omega) (by simp)
       unfold qa1 PExpr.cellsT at z2
       simp only[qaj,qb1,qae,qcs,z2,wq,wz,wv,wj,wk]
     ·rw[if_neg q1]at hp
      have e1:(((qa7 (qaw (t::r)):Nat):Int)==1)=false:=by simp;omega
      by_cases q2:qa7 (qaw (t::r))=2
      ·rw[if_pos q2]at hp
       obtain⟨k,ts2,hk,hp⟩:=PR.bind_ok hp
       obtain⟨hT2,_,rk⟩:=hR _ _ _ _ _ hTr hk
       have rk':RdE 99 [.int .i64 2] r o k ts2:=rk (by omega)
       obtain⟨Ek,y1,y2,y3⟩:=rk'.m3 rfl
       have e2:(((qa7 (qaw (t::r)):Nat):Int)==2)=true:=by rw[q2];rfl
       simp only[Z3,simprocAttr,effs,qe7,PExpr.cellsT,qa1,qbd,cb _,d1,d2,s1,s2,e1,e2,y1,y2,qgs,qew,qmw _ _ _ _]
       rw[qct]
       ·simp only[Z3,simprocAttr,effs,qe7,y2,qmw _ _ _ _]
        exact .inl ⟨⟨n,1,eFby left k,.free,ts2⟩,_,rfl,⟨hT2,hp⟩,At.of _ (by simp only[ats]<;>rfl) (by simp only[we,wc,wd]<;>rfl),by simp only[];omega,trivial⟩
       ·kernel_rfl
       ·have z2:=y3 (Blk.box qa1::Blk.box (left.cellsT tk)::H) 2 (by omega) (by simp)
        unfold qa1 PExpr.cellsT at z2
        simp only[qaj,qb1,qae,qcs,z2,wq,wz,wv,wj,wk]
      ·rw[if_neg q2]at hp
       have e2:(((qa7 (qaw (t::r)):Nat):Int)==2)=false:=by simp;omega
       obtain⟨k,ts2,hk,hp⟩:=PR.bind_ok hp
       obtain⟨hT2,_,rk⟩:=hR _ _ _ _ _ hTr hk
       have rk':RdE 99 [.int .i64 (((qa7 (qaw (t::r)):Nat):Int)+1)] r o k ts2:=rk (by omega)
       obtain⟨Ek,y1,y2,y3⟩:=rk'.m3 rfl
       have w1:qd0 .i64 (((qa7 (qaw (t::r)):Nat):Int)+1)=((qa7 (qaw (t::r)):Nat):Int)+1:=qib (by omega) (by omega)
       by_cases q5:qa7 (qaw (t::r))=5
       ·rw[if_pos q5]at hp
        have e5:(((qa7 (qaw (t::r)):Nat):Int)==5)=true:=by rw[q5];rfl
        have w5:qd0 .i64 (((qa7 (qaw (t::r)):Nat):Int)-1)=4:=by rw[q5];rfl
        simp only[Z3,simprocAttr,effs,qe7,PExpr.cellsT,qa1,qbd,cb _,d1,d2,s1,s2,e1,e2,w1,y1,y2,qgs,qew]
        rw[qct]
        ·simp only[Z3,simprocAttr,effs,qe7,y2,qgs,qew,e5,w5]
         exact .inl ⟨⟨n,4,eBin (qaw (t::r)) left k,.full,ts2⟩,_,rfl,⟨hT2,hp⟩,At.of _ (by simp only[ats]<;>rfl) (by simp only[we,wc,wd]<;>rfl),by simp only[];omega,trivial⟩
        ·kernel_rfl
        ·have z2:=y3 (Blk.box qa1::Blk.box (left.cellsT tk)::H) 2 (by omega) (by simp)
         unfold qa1 PExpr.cellsT at z2
         simp only[qaj,qb1,qae,qcs,z2,wq,wz,wv,wj,wk]
       ·rw[if_neg q5]at hp
        have e5:(((qa7 (qaw (t::r)):Nat):Int)==5)=false:=by simp;omega
        simp only[Z3,simprocAttr,effs,qe7,PExpr.cellsT,qa1,qbd,cb _,d1,d2,s1,s2,e1,e2,w1,y1,y2,qgs,qew]
        rw[qct]
        ·simp only[Z3,simprocAttr,effs,qe7,y2,qgs,qew,e5]
         exact .inl ⟨⟨n,qa7 (qaw (t::r)),eBin (qaw (t::r)) left k,.full,ts2⟩,_,rfl,⟨hT2,hp⟩,At.of _ (by simp only[ats]<;>rfl) (by simp only[we,wc,wd]<;>rfl),by simp only[];omega,trivial⟩
        ·kernel_rfl
        ·have z2:=y3 (Blk.box qa1::Blk.box (left.cellsT tk)::H) 2 (by omega) (by simp)
         unfold qa1 PExpr.cellsT at z2
         simp only[qaj,qb1,qae,qcs,z2,wq,wz,wv,wj,wk])
 obtain⟨j,H,d,rfl⟩:=h2.elim
 clear hl
 simp only[Z3,simprocAttr,effs,qe7]
 exact qfa (ts:=ts') (d:=o) (.inl rfl) rfl rfl (qlx e tk') rfl rfl
end Go.Ab
namespace Go.Ab
open Go Go.Ab.Tab
def Grow2 (h:qab) (v:AVal) (es:List (List AVal)) (T:TypeId):Prop:=v= .slice es .full∨∃t,v= .slice es (.own t)∧h[t]? =some (.tok es.length T)
theorem Grow2.set {h:qab} {v:AVal} {es:List (List AVal)} {T:TypeId} {b:Nat} {x y:List AVal} (g:Grow2 h v es T) (hb:h[b]? =some (.box x)):Grow2 (h.set b (.box y)) v es T:=by
 rcases g with g|⟨t,h1,h2⟩
 ·exact .inl g
 ·refine .inr ⟨t,h1,?_⟩
  rw[wi (by rintro rfl;rw[hb]at h2;cases h2)];exact h2
theorem qk0 {P:Program} {t e sz:Nat} (ok:qf4 P t e sz) {h:qab} {v:AVal} {es fs:List (List AVal)} (g:Grow2 h v es e) (hl:es.length+fs.length≤qac) (h1:∀c∈es,c.length=sz) (h2:∀c∈fs,c.length=sz) (hne:¬fs=[]):
 ∃v' f,qdw P h t v (.slice fs .full)=some (v',f)∧Grow2 (f.of h) v' (es++fs) e∧Boxes h (f.of h):=by
 rcases g with rfl|⟨p,rfl,hp⟩
 ·refine⟨_,_,qcp h ok hl (qcv h1) (qcv h2) hne,.inr ⟨_,rfl,?_⟩,Boxes.app _ _⟩
  simp[Eff.of]
 ·refine⟨_,_,qc7 h ok hl (qcv h1) (qcv h2) hne hp rfl,.inr ⟨_,rfl,?_⟩,?_⟩
  ·simp only[Eff.of]
   rw[wg (wa.1 hp).1]
   simp
  ·intro k cs hk
   simp only[Eff.of]
   by_cases hkp:p=k
   ·subst hkp;rw[hp]at hk;cases hk
   ·rw[wi hkp];exact hk
theorem strs1 (l:List Str):∀c∈l.map (fun s=>[AVal.str s]),c.length=1:=by
 intro c hc;obtain⟨s,_,rfl⟩:=w9.1 hc;rfl
theorem qtz {k:Int} {sep:Str}:∀(n:Nat) (ts ts':List PTok) (l:List Str),qem k sep n ts= .ok l ts'→l.length+ts'.length≤ts.length
 |0,_,_,_,h=>by cases h
 |n+1,ts,ts',l,h=>by
  simp only[qem]at h
  obtain⟨t,r,rfl,_,h⟩:=qb8 h
  split at h
  ·obtain⟨l1,ts1,h1,h⟩:=PR.bind_ok h
   cases h
   have:=qtz n _ _ _ h1
   rw[List.length_tail]at this
   simp only[wb]
   cases r with
   |nil=>simp[hasS]at*
   |cons a b=>simp only[wb]at*;omega
  ·cases h
   simp only[wb,wm];omega
theorem q24 {k:Int} {sep:Str} (hk6:k≠6):∀(n:Nat) (ts ts':List PTok) (l:List Str),TsOk ts→qem k sep n ts= .ok l ts'→TsOk ts'
 |0,_,_,_,_,h=>by cases h
 |n+1,ts,ts',l,hT,h=>by
  simp only[qem]at h
  obtain⟨t,r,rfl,hs,h⟩:=qb8 h
  have hTr:=hT.tail (by rw[hs];exact hk6)
  split at h
  ·rename_i hh
   obtain⟨l1,ts1,h1,h⟩:=PR.bind_ok h
   cases h
   obtain⟨t2,r2,rfl,hT2,_,_⟩:=hTr.hasS hh
   exact q24 hk6 n _ _ _ hT2 h1
  ·cases h;exact hTr
theorem qpj {H:qab} {x:Blk} (h:H[0]? =some x):H.take 1=[x]:=by
 cases H with
 |nil=>cases h
 |cons a b=>simp at h;simp[h]
structure ListSt where
 n:Nat
 acc:List Str
 v:AVal
 ts:List PTok
theorem qvf {k:Int} {g:FuncId} (hk6:k≠6) (d:Nat) (hg:∀t r,t.sort=k→qbj C g [.ptr 0 0] [.box (pbox (t::r) d)] (.str t.text) [.box (pbox r d)]) (sep:Str) (hsep:sep≠[]) {n:Nat} {ts ts':List PTok} {l:List Str} (hT:TsOk ts) (h:qem k sep n ts= .ok l ts'):
 TsOk ts'∧qbj C 133 [.ptr 0 0,.str sep,.func g [.ptr 0 0] []] [.box (pbox ts d)] (.slice (l.map fun s=>[.str s]) .free) [.box (pbox ts' d)]:=by
 refine⟨q24 hk6 n ts ts' l hT h,?_⟩
 cases n with
 |zero=>cases h
 |succ n=>
  simp only[qem]at h
  obtain⟨t,rt,rfl,hs,h⟩:=qb8 h
  obtain⟨E,e1,e2⟩:=met (hg t rt hs) rfl (qaa _ _) (qaa _ _) rfl
  have hTr:=hT.tail (by rw[hs];exact hk6)
  have hle:=hTr.le
  refine qa9 rfl Tryz.func133 rfl (by kernel_rfl) (m:=17) rfl ?_;simp only[Z3,simprocAttr,Tryz.f133,qlp,effs,e1,e2]
  generalize hb:qan PP cmp0 C lpC _=f;generalize hl:lpC f _=r
  obtain⟨ex,s',rfl,rfl,tk,h2⟩:=qbv (α:=ListSt) hl [11,12,13,14,15,16,17,18] (fun a=>[(7,a.v)]) (fun a h=>h[0]? =some (.box (pbox a.ts d))∧Grow2 h a.v (a.acc.map fun s=>[.str s]) 9∧TsOk a.ts∧a.acc.length+a.ts.length≤65538∧(if hasS sep a.ts=true then(qem k sep a.n a.ts.tail).bind fun l2 ts2=> .ok (a.acc++l2) ts2 else .ok a.acc a.ts)= .ok l ts') (fun a=>a.n) (fun _=>())
   (fun ts _ ex s=>ex= .exit 0∧∃tk,OutT [11,12,13,14,15,16,17,18] ts [(7,.slice (l.map fun s=>[.str s]) tk)] (fun g=>g[0]? =some (.box (pbox ts' d))) s) ⟨n,[t.text],.slice [[.str t.text]] .full,rt⟩ ⟨rfl,.inl rfl,hTr,by simp only[wb,wm];omega,h⟩ (by simp only[AtT,ats]) (by
    rintro⟨n,acc,v,ts⟩ j G dd ⟨q0,hgr,hTs,hln,hp⟩
    clear hl;subst hb
    simp only at q0 hgr hTs hln hp ⊢
    obtain⟨t,rt,rfl⟩:=hTs.ne
    cases hh:hasS sep (t::rt)
    ·rw[hh]at hp
     simp only[wh,if_false]at hp
     cases hp
     have c1:=qcm (c:=C) (b:=0) (H:=G) (rest:=[.str sep]) rfl q0 (qaa _ _) (qif sep hsep t rt d hh) rfl
     simp only[Z3,simprocAttr,effs,qlp,c1]
     obtain⟨tk,hv⟩:∃tk,v= .slice (l.map fun s=>[.str s]) tk:=by
      rcases hgr with h|⟨_,h,_⟩<;>exact⟨_,h⟩
     subst hv
     exact .inr ⟨_,_,rfl,by simp,rfl,tk,by simp only[OutT,AtT,ats],q0⟩
    ·rw[hh]at hp
     simp only[if_true,wf]at hp
     cases n with
     |zero=>cases hp
     |succ n=>
      obtain⟨l2,ts2,h2,hp⟩:=PR.bind_ok hp
      cases hp
      obtain⟨_,_,hc,hTr,_,_⟩:=hTs.hasS hh
      cases hc
      simp only[qem]at h2
      obtain⟨t2,r2,rfl,hs2,h2⟩:=qb8 h2
      obtain⟨E1,hE1,hh1⟩:=qel qao (b:=0) (H:=G) (rest:=[.str sep]) rfl q0 (qaa _ _) (qaa _ _) (qev sep t (t2::r2) d hh) rfl
      have l0:=(wa.1 q0).1
      obtain⟨g1,hg1⟩:∃g1,g1=G.set 0 (.box (pbox (t2::r2) d)):=⟨_,rfl⟩
      rw[←hg1]at hh1
      have p1:g1[0]? =some (.box (pbox (t2::r2) d)):=by rw[hg1,wg l0]
      have gg1:=hgr.set (y:=pbox (t2::r2) d) q0
      rw[←hg1]at gg1
      obtain⟨E2,hE2,hh2⟩:=qel qao (b:=0) (H:=g1) (rest:=[]) rfl p1 (qaa _ _) (qaa _ _) (hg t2 r2 hs2) rfl
      obtain⟨g2,hg2⟩:∃g2,g2=g1.set 0 (.box (pbox r2 d)):=⟨_,rfl⟩
      rw[←hg2]at hh2
      have p2:g2[0]? =some (.box (pbox r2 d)):=by rw[hg2,wg (wa.1 p1).1]
      have gg2:=gg1.set (y:=pbox r2 d) p1
      rw[←hg2]at gg2
      have hlen:acc.length+1≤qac:=by
       simp only[wb]at hln
       unfold qac;omega
      obtain⟨v3,E3,ha3,gg3,hB3⟩:=qk0 qhd (fs:=[[.str t2.text]]) gg2 (by simpa using hlen) (strs1 acc) (by intro c hc;simp only[w8,w7,or_false]at hc;subst hc;rfl) (by simp)
      have p3:=hB3 _ _ p2
      simp only[Z3,simprocAttr,effs,qlp,hE1,hh1,hE2,hh2,ha3]
      refine .inl ⟨⟨n,acc++[t2.text],v3,r2⟩,_,rfl,⟨p3,by simpa using gg3,hTr.tail (by rw[hs2];exact hk6),?_,?_⟩,by simp only[AtT,ats],by simp only[];omega,trivial⟩
      ·simp only[w6,wb,wm]at hln ⊢;omega
      ·split at h2
       ·rename_i hh3
        rw[if_pos hh3]
        obtain⟨l3,ts3,h3,h2⟩:=PR.bind_ok h2
        cases h2
        rw[h3]
        simp[PR.bind]
       ·rename_i hh3
        rw[if_neg hh3]
        cases h2
        rfl)
  obtain⟨j,H,dd,q0,rfl⟩:=h2.elim
  clear hl
  simp only[Z3,simprocAttr,effs,qlp]
  exact qc3 (.inl rfl) rfl rfl rfl (fun b hb=>by
   obtain rfl:b=0:=wt.1 hb
   exact qe3 _ _ ts' d _ q0) (qpj q0)
theorem met4 {f:FuncId} {rest:List AVal} {x y:List AVal} {v:AVal} (g:qbj C f (.ptr 0 0::rest) [.box x] v [.box y]) (hr:qad rest=[0]) (px:qad x=[]) (py:qad y=[]) (hv:refs v=[]):
 ∃E:qab→Eff,(∀H,qai C (.box x::H) f (.ptr 0 0::rest)=some (.ret v (E H)))∧(∀H,(E H).of (.box x::H)= .box y::H):=by
 have h:∀H,qon C (.box x::H) f (.ptr 0 0::rest) v (.box y::H):=by
  intro H
  have ha:qad (.ptr 0 0::rest)=[0,0]:=by simp[qad,refs,hr]
  refine qj5 qao [0] (by rw[ha];simp[qc0,px]) (by simp) (by unfold qdo;simp[ha,qdx,px]) (?_:qbj C f _ (subH (.box x::H) [0]) v [.box y]) hv ?_
  ·have e1:subH (.box x::H) [0]=[.box x]:=by simp[subH,renB,qbw px]
   have e2:renL (fun x=>[0].idxOf x) (.ptr 0 0::rest)= .ptr 0 0::rest:=qc9 _ (by rw[ha];simp)
   rw[e1,e2];exact g
  ·intro H' k
   apply waa
   intro i
   cases i with
   |zero=>rw[k.inn 0 0 rfl];simp[renB,qbw py]
   |succ i=>
    by_cases hi:i+1<(Blk.box x::H).length
    ·rw[k.out (i+1) hi (by simp)];rfl
    ·have e3:([Blk.box y]:List Blk)[[0].length+(i+1-(Blk.box x::H).length)]? =none:=wo (by simp)
     have e4:(Blk.box y::H)[i+1]? =none:=wo (by simp only[wb]at hi ⊢;omega)
     rw[k.new (i+1) (by omega),e3,e4]
     rfl
 exact⟨fun H=>(h H).choose,fun H=>(h H).choose_spec.1,fun H=>(h H).choose_spec.2⟩
theorem qek {m:Nat} {opn cls:Str} {d:Nat} {ts ts':List PTok} {l:List Str} (hT:TsOk ts) (h:qdn m opn cls ts= .ok l ts'):
 TsOk ts'∧qbj C 135 [.ptr 0 0,.str opn,.str cls] [.box (pbox ts d)] (.slice (l.map fun s=>[.str s]) .free) [.box (pbox ts' d)]:=by
 unfold qdn at h
 obtain⟨w1,h⟩:=qa8 h
 obtain⟨t,r,rfl,hTr,_,_⟩:=hT.hasS w1
 obtain⟨l1,ts1,h1,h⟩:=PR.bind_ok h
 obtain⟨hT1,g1⟩:=qvf (by decide) d (fun t r hs=>qd3 t r d hs) [44] (by decide) hTr h1
 obtain⟨w2,h⟩:=qa8 h
 obtain⟨t2,r2,rfl,hT2,_,_⟩:=hT1.hasS w2
 cases h
 refine⟨hT2,?_⟩
 obtain⟨E1,a1,a2⟩:=qbu _ t r d w1
 obtain⟨E2,b1,b2⟩:=met4 g1 rfl (qaa _ _) (qaa _ _) rfl
 obtain⟨E3,c1,c2⟩:=qbu _ t2 r2 d w2
 refine qa9 rfl Tryz.func135 rfl (by kernel_rfl) (m:=18) rfl ?_;simp only[Z3,simprocAttr,Tryz.f135,qyb,effs,a1,a2,b1,b2,c1,c2]
 exact qc3 (.inl rfl) rfl rfl rfl (fun b hb=>by
  obtain rfl:b=0:=wt.1 hb
  exact qe3 _ _ r2 d _ rfl) rfl
end Go.Ab
namespace Go.Ab
open Go Go.Ab.Tab
def LenR (R:Rd):Prop:=∀(o least:Nat) (ts:List PTok) (e:PExpr) (ts':List PTok),R o least ts= .ok e ts'→ts'.length≤ts.length
theorem exprs5 (l:List PExpr):∀c∈l.map PExpr.cells,c.length=5:=by
 intro c hc;obtain⟨s,_,rfl⟩:=w9.1 hc;exact s.len
theorem q0p {R:Rd} (hR:HypE R) {o:Nat}:∀(n:Nat) (ts ts':List PTok) (l:List PExpr),TsOk ts→qc4 R o n ts= .ok l ts'→TsOk ts'
 |0,_,_,_,_,h=>by cases h
 |n+1,ts,ts',l,hT,h=>by
  simp only[qc4]at h
  obtain⟨e,r,he,h⟩:=PR.bind_ok h
  have hTr:=(hR _ _ _ _ _ hT he).1
  split at h
  ·rename_i hh
   obtain⟨l1,ts1,h1,h⟩:=PR.bind_ok h
   cases h
   obtain⟨t2,r2,rfl,hT2,_,_⟩:=hTr.hasS hh
   exact q0p hR n _ _ _ hT2 h1
  ·cases h;exact hTr
structure ListEt where
 n:Nat
 acc:List PExpr
 v:AVal
 ts:List PTok
theorem qvg {R:Rd} (hR:HypE R) (hLen:LenR R) (d:Nat) {n:Nat} {ts ts':List PTok} {l:List PExpr} (hT:TsOk ts) (h:qc4 R d n ts= .ok l ts'):
 TsOk ts'∧qbj C 297 [.ptr 0 0,.str [44],.func 50 [.ptr 0 0] []] [.box (pbox ts d)] (.slice (l.map PExpr.cells) .free) [.box (pbox ts' d)]:=by
 refine⟨q0p hR n ts ts' l hT h,?_⟩
 cases n with
 |zero=>cases h
 |succ n=>
  simp only[qc4]at h
  obtain⟨e0,rt,h0,h⟩:=PR.bind_ok h
  obtain⟨hTr,x0⟩:=qdy hR hT h0
  obtain⟨E,e1,e2⟩:=x0.m rfl
  have hle:=hTr.le
  refine qa9 rfl Tryz.func297 rfl (by kernel_rfl) (m:=17) rfl ?_;simp only[Z3,simprocAttr,Tryz.f297,qls,effs,e1,e2]
  generalize hb:qan PP cmp0 C lpC _=f;generalize hl:lpC f _=r
  obtain⟨ex,s',rfl,rfl,tk,h2⟩:=qbv (α:=ListEt) hl [11,12,13,14,15,16,17,18] (fun a=>[(7,a.v)]) (fun a h=>h[0]? =some (.box (pbox a.ts d))∧Grow2 h a.v (a.acc.map PExpr.cells) 37∧TsOk a.ts∧a.acc.length+a.ts.length≤65538∧(if hasS [44] a.ts=true then(qc4 R d a.n a.ts.tail).bind fun l2 ts2=> .ok (a.acc++l2) ts2 else .ok a.acc a.ts)= .ok l ts') (fun a=>a.n) (fun _=>())
   (fun ts _ ex s=>ex= .exit 0∧∃tk,OutT [11,12,13,14,15,16,17,18] ts [(7,.slice (l.map PExpr.cells) tk)] (fun g=>g[0]? =some (.box (pbox ts' d))) s) ⟨n,[e0],.slice [e0.cells] .full,rt⟩ ⟨rfl,.inl rfl,hTr,by simp only[wb,wm];omega,h⟩ (by simp only[AtT,ats]) (by
    rintro⟨n,acc,v,ts⟩ j G dd ⟨q0,hgr,hTs,hln,hp⟩
    clear hl;subst hb
    simp only at q0 hgr hTs hln hp ⊢
    obtain⟨t,rt,rfl⟩:=hTs.ne
    cases hh:hasS [44] (t::rt)
    ·rw[hh]at hp
     simp only[wh,if_false]at hp
     cases hp
     have c1:=qcm (c:=C) (b:=0) (H:=G) (rest:=[.str [44]]) rfl q0 (qaa _ _) (qif [44] (by decide) t rt d hh) rfl
     simp only[Z3,simprocAttr,effs,qls,c1]
     obtain⟨tk,hv⟩:∃tk,v= .slice (l.map PExpr.cells) tk:=by
      rcases hgr with h|⟨_,h,_⟩<;>exact⟨_,h⟩
     subst hv
     exact .inr ⟨_,_,rfl,by simp,rfl,tk,by simp only[OutT,AtT,ats],q0⟩
    ·rw[hh]at hp
     simp only[if_true,wf]at hp
     cases n with
     |zero=>cases hp
     |succ n=>
      obtain⟨l2,ts2,h2,hp⟩:=PR.bind_ok hp
      cases hp
      obtain⟨_,_,hc,hTr,_,_⟩:=hTs.hasS hh
      cases hc
      simp only[qc4]at h2
      obtain⟨x2,r2,h20,h2⟩:=PR.bind_ok h2
      have hlen2:=hLen _ _ _ _ _ h20
      obtain⟨hT2,y2⟩:=qdy hR hTr h20
      obtain⟨E1,hE1,hh1⟩:=qel qao (b:=0) (H:=G) (rest:=[.str [44]]) rfl q0 (qaa _ _) (qaa _ _) (qev [44] t rt d hh) rfl
      have l0:=(wa.1 q0).1
      obtain⟨g1,hg1⟩:∃g1,g1=G.set 0 (.box (pbox rt d)):=⟨_,rfl⟩
      rw[←hg1]at hh1
      have p1:g1[0]? =some (.box (pbox rt d)):=by rw[hg1,wg l0]
      have gg1:=hgr.set (y:=pbox rt d) q0
      rw[←hg1]at gg1
      obtain⟨E2,hE2,hh2⟩:=qel qao (b:=0) (H:=g1) (rest:=[]) rfl p1 (qaa _ _) (qaa _ _) y2 (by simp only[refs];exact x2.norefs)
      obtain⟨g2,hg2⟩:∃g2,g2=g1.set 0 (.box (pbox r2 d)):=⟨_,rfl⟩
      rw[←hg2]at hh2
      have p2:g2[0]? =some (.box (pbox r2 d)):=by rw[hg2,wg (wa.1 p1).1]
      have gg2:=gg1.set (y:=pbox r2 d) p1
      rw[←hg2]at gg2
      have hlen:acc.length+1≤qac:=by
       simp only[wb]at hln
       unfold qac;omega
      obtain⟨v3,E3,ha3,gg3,hB3⟩:=qk0 qiw (fs:=[x2.cells]) gg2 (by simpa using hlen) (exprs5 acc) (by intro c hc;simp only[w8,w7,or_false]at hc;subst hc;exact x2.len) (by simp)
      have p3:=hB3 _ _ p2
      simp only[Z3,simprocAttr,effs,qls,hE1,hh1,hE2,hh2,ha3]
      refine .inl ⟨⟨n,acc++[x2],v3,r2⟩,_,rfl,⟨p3,by simpa using gg3,hT2,?_,?_⟩,by simp only[AtT,ats],by simp only[];omega,trivial⟩
      ·simp only[w6,wb,wm]at hln ⊢;omega
      ·split at h2
       ·rename_i hh3
        rw[if_pos hh3]
        obtain⟨l3,ts3,h3,h2⟩:=PR.bind_ok h2
        cases h2
        rw[h3]
        simp[PR.bind]
       ·rename_i hh3
        rw[if_neg hh3]
        cases h2
        rfl)
  obtain⟨j,H,dd,q0,rfl⟩:=h2.elim
  clear hl
  simp only[Z3,simprocAttr,effs,qls]
  exact qc3 (.inl rfl) rfl rfl rfl (fun b hb=>by
   obtain rfl:b=0:=wt.1 hb
   exact qe3 _ _ ts' d _ q0) (qpj q0)
theorem pcall_c {m:Nat} {R:Rd} (hR:HypE R) (hLen:LenR R) {d:Nat} {t:PTok} {r ts':List PTok} {e:PExpr} (hT:TsOk r) (hs:t.sort=1) (hc:(hasS [91] r||hasS [40] r)=true) (h:qjq m R d t.text r= .ok e ts'):
 TsOk ts'∧RdE 286 [] (t::r) d e ts':=by
 obtain⟨N1,n1,n2⟩:=met (qd3 t r d hs) rfl (qaa _ _) (qaa _ _) rfl
 unfold qjq at h
 obtain⟨c,tsc,h1,h⟩:=PR.bind_ok h
 obtain⟨w1,h⟩:=qa8 h
 obtain⟨t1,r1,rfl⟩:=hT.ne
 cases hb:hasS [91] (t1::r1)
 ·rw[hb]at h1 hc
  simp only[wh,if_false]at h1
  cases h1
  obtain⟨_,_,hcc,hTr,_,_⟩:=hT.hasS w1
  cases hcc
  obtain⟨l,tsl,h2,h⟩:=PR.bind_ok h
  obtain⟨hT2,g2⟩:=qvg hR hLen d hTr h2
  obtain⟨w2,h⟩:=qa8 h
  obtain⟨t2,r2,rfl,hT3,_,_⟩:=hT2.hasS w2
  cases h
  refine⟨hT3,?_⟩
  obtain⟨E1,a1,a2⟩:=qbu _ t1 r1 d w1
  obtain⟨E2,b1,b2⟩:=met4 g2 rfl (qaa _ _) (qaa _ _) rfl
  obtain⟨E3,c1,c2⟩:=qbu _ t2 r2 d w2
  have q1:=qhl (s:=[91]) (by decide) hb
  have q2:=qhk w1
  unfold RdE
  refine qa9 rfl Tryz.func286 rfl (by kernel_rfl) (m:=35) rfl ?_;simp only[Z3,simprocAttr,Tryz.f286,qlr,effs,n1,n2,qbd,bne,q1,q2,a1,a2,b1,b2,c1,c2]
  exact qfa (ts:=r2) (d:=d) (.inl rfl) rfl rfl (mk_c 14 t.text 0 [] l .full .free) rfl rfl
 ·rw[hb]at h1
  simp only[if_true]at h1
  obtain⟨hTc,gn⟩:=qek (d:=d) hT h1
  obtain⟨t3,r3,rfl,hTr,_,_⟩:=hTc.hasS w1
  obtain⟨l,tsl,h2,h⟩:=PR.bind_ok h
  obtain⟨hT2,g2⟩:=qvg hR hLen d hTr h2
  obtain⟨w2,h⟩:=qa8 h
  obtain⟨t2,r2,rfl,hT3,_,_⟩:=hT2.hasS w2
  cases h
  refine⟨hT3,?_⟩
  obtain⟨E0,m1,m2⟩:=met gn rfl (qaa _ _) (qaa _ _) rfl
  obtain⟨E1,a1,a2⟩:=qbu _ t3 r3 d w1
  obtain⟨E2,b1,b2⟩:=met4 g2 rfl (qaa _ _) (qaa _ _) rfl
  obtain⟨E3,c1,c2⟩:=qbu _ t2 r2 d w2
  have q1:=qhk hb
  unfold RdE
  refine qa9 rfl Tryz.func286 rfl (by kernel_rfl) (m:=35) rfl ?_;simp only[Z3,simprocAttr,Tryz.f286,qlr,effs,n1,n2,qbd,bne,q1,m1,m2,a1,a2,b1,b2,c1,c2]
  exact qfa (ts:=r2) (d:=d) (.inl rfl) rfl rfl (mk_c 14 t.text 0 c l .free .free) rfl rfl
theorem pvar_c {d:Nat} {t:PTok} {r:List PTok} (hT:TsOk r) (hs:t.sort=1) (hc:(hasS [91] r||hasS [40] r)=false):
 RdE 286 [] (t::r) d (eVar t.text) r:=by
 obtain⟨N1,n1,n2⟩:=met (qd3 t r d hs) rfl (qaa _ _) (qaa _ _) rfl
 obtain⟨t1,r1,rfl⟩:=hT.ne
 simp only[Bool.or_eq_false_iff]at hc
 have q1:=qhl (s:=[91]) (by decide) hc.1
 have q2:=qhl (s:=[40]) (by decide) hc.2
 unfold RdE
 refine qa9 rfl Tryz.func286 rfl (by kernel_rfl) (m:=35) rfl ?_;simp only[Z3,simprocAttr,Tryz.f286,qlr,effs,n1,n2,qbd,bne,q1,q2]
 exact qfa (ts:=t1::r1) (d:=d) (.inl rfl) rfl rfl (mk_c 4 t.text 0 [] [] .full .full) rfl rfl
end Go.Ab
namespace Go.Ab
open Go Go.Ab.Tab
def HypA (m:Nat) (R:Rd) (d:Nat):Prop:=∀(op:Int) (ts:List PTok) (e:PExpr) (ts':List PTok),TsOk ts→qkj m R d op ts= .ok e ts'→TsOk ts'∧RdE 287 [.int .i64 op] ts d e ts'
theorem atom_c {m:Nat} {R:Rd} (hR:HypE R) (hLen:LenR R) {d:Nat} (hA:HypA m R d) {ts ts':List PTok} {e:PExpr} (hT:TsOk ts) (h:qhj m R d ts= .ok e ts'):
 TsOk ts'∧RdE 271 [] ts d e ts':=by
 obtain⟨t,r,rfl⟩:=hT.ne
 unfold qhj at h
 unfold RdE
 by_cases s3:qd6 (t::r)=3
 ·rw[if_pos s3]at h
  cases h
  refine⟨hT.tail (by rw[show t.sort=3 from s3];decide),?_⟩
  obtain⟨E,e1,e2⟩:=qlv t ts' d
  have k3:(t.sort==3)=true:=by have:t.sort=3:=s3;simpa using this
  refine qa9 rfl Tryz.func271 rfl (by kernel_rfl) (m:=53) rfl ?_;simp only[Z3,simprocAttr,Tryz.f271,qhf,effs,qe9,k3,e1,e2]
  exact qfa (ts:=ts') (d:=d) (.inl rfl) rfl rfl (mk_c 1 [] t.n [] [] .full .full) rfl rfl
 rw[if_neg s3]at h
 have k3:(t.sort==3)=false:=by have:¬t.sort=3:=s3;simpa using this
 by_cases s2:qd6 (t::r)=2
 ·rw[if_pos s2]at h
  cases h
  refine⟨hT.tail (by rw[show t.sort=2 from s2];decide),?_⟩
  obtain⟨E,e1,e2⟩:=qlv t ts' d
  have k2:(t.sort==2)=true:=by have:t.sort=2:=s2;simpa using this
  refine qa9 rfl Tryz.func271 rfl (by kernel_rfl) (m:=53) rfl ?_;simp only[Z3,simprocAttr,Tryz.f271,qhf,effs,qe9,k3,k2,e1,e2]
  exact qfa (ts:=ts') (d:=d) (.inl rfl) rfl rfl (mk_c 3 t.text 0 [] [] .full .full) rfl rfl
 rw[if_neg s2]at h
 have k2:(t.sort==2)=false:=by have:¬t.sort=2:=s2;simpa using this
 by_cases s1:qd6 (t::r)=1
 ·rw[if_pos s1]at h
  have hTr:=hT.tail (by rw[show t.sort=1 from s1];decide)
  have k1:(t.sort==1)=true:=by have:t.sort=1:=s1;simpa using this
  simp only at h
  have key:TsOk ts'∧RdE 286 [] (t::r) d e ts':=by
   cases hc:(hasS [91] r||hasS [40] r)
   ·rw[hc]at h
    cases h
    exact⟨hTr,pvar_c hTr s1 hc⟩
   ·rw[hc]at h
    exact pcall_c hR hLen hTr s1 hc h
  refine⟨key.1,?_⟩
  obtain⟨E,e1,e2⟩:=key.2.m rfl
  refine qa9 rfl Tryz.func271 rfl (by kernel_rfl) (m:=53) rfl ?_;simp only[Z3,simprocAttr,Tryz.f271,qhf,effs,qe9,k3,k2,k1,e1,e2]
  exact qfa (ts:=ts') (d:=d) (.inl rfl) rfl rfl (qit e) rfl rfl
 rw[if_neg s1]at h
 have k1:(t.sort==1)=false:=by have:¬t.sort=1:=s1;simpa using this
 by_cases h1:hasS [116,114,117,101] (t::r)=true
 ·rw[if_pos h1]at h
  cases h
  obtain⟨_,_,hc,hTr,_,_⟩:=hT.hasS h1
  cases hc
  refine⟨hTr,?_⟩
  obtain⟨E,e1,e2⟩:=qdh _ t r d h1
  refine qa9 rfl Tryz.func271 rfl (by kernel_rfl) (m:=53) rfl ?_;simp only[Z3,simprocAttr,Tryz.f271,qhf,effs,qe9,k3,k2,k1,e1,e2]
  exact qfa (ts:=r) (d:=d) (.inl rfl) rfl rfl (mk_c 2 [] 1 [] [] .full .full) rfl rfl
 rw[if_neg h1]at h
 have t1:=qe4 [116,114,117,101] (by decide) t r d (wu.2 h1)
 by_cases h2:hasS [102,97,108,115,101] (t::r)=true
 ·rw[if_pos h2]at h
  cases h
  obtain⟨_,_,hc,hTr,_,_⟩:=hT.hasS h2
  cases hc
  refine⟨hTr,?_⟩
  obtain⟨E,e1,e2⟩:=qdh _ t r d h2
  refine qa9 rfl Tryz.func271 rfl (by kernel_rfl) (m:=53) rfl ?_;simp only[Z3,simprocAttr,Tryz.f271,qhf,effs,qe9,k3,k2,k1,t1,e1,e2]
  exact qfa (ts:=r) (d:=d) (.inl rfl) rfl rfl (mk_c 2 [] 0 [] [] .full .full) rfl rfl
 rw[if_neg h2]at h
 have t2:=qe4 [102,97,108,115,101] (by decide) t r d (wu.2 h2)
 by_cases h3:hasS [109,101,114,103,101] (t::r)=true
 ·rw[if_pos h3]at h
  obtain⟨_,_,hc,hTr,_,_⟩:=hT.hasS h3
  cases hc
  obtain⟨hT',ga⟩:=hA _ _ _ _ hTr h
  refine⟨hT',?_⟩
  obtain⟨E,e1,e2⟩:=qdh _ t r d h3
  obtain⟨E',u1,u2⟩:=ga.m rfl
  refine qa9 rfl Tryz.func271 rfl (by kernel_rfl) (m:=53) rfl ?_;simp only[Z3,simprocAttr,Tryz.f271,qhf,effs,qe9,k3,k2,k1,t1,t2,e1,e2,u1,u2]
  exact qfa (ts:=ts') (d:=d) (.inl rfl) rfl rfl (qit e) rfl rfl
 rw[if_neg h3]at h
 have t3:=qe4 [109,101,114,103,101] (by decide) t r d (wu.2 h3)
 by_cases h4:hasS [109,97,116,99,104] (t::r)=true
 ·rw[if_pos h4]at h
  obtain⟨_,_,hc,hTr,_,_⟩:=hT.hasS h4
  cases hc
  obtain⟨hT',ga⟩:=hA _ _ _ _ hTr h
  refine⟨hT',?_⟩
  obtain⟨E,e1,e2⟩:=qdh _ t r d h4
  obtain⟨E',u1,u2⟩:=ga.m rfl
  refine qa9 rfl Tryz.func271 rfl (by kernel_rfl) (m:=53) rfl ?_;simp only[Z3,simprocAttr,Tryz.f271,qhf,effs,qe9,k3,k2,k1,t1,t2,t3,e1,e2,u1,u2]
  exact qfa (ts:=ts') (d:=d) (.inl rfl) rfl rfl (qit e) rfl rfl
 rw[if_neg h4]at h
 have t4:=qe4 [109,97,116,99,104] (by decide) t r d (wu.2 h4)
 obtain⟨w1,h⟩:=qa8 h
 obtain⟨_,_,hc,hTr,_,_⟩:=hT.hasS w1
 cases hc
 obtain⟨x,ts1,hx,h⟩:=PR.bind_ok h
 obtain⟨hT1,gx⟩:=qdy hR hTr hx
 obtain⟨w2,h⟩:=qa8 h
 obtain⟨t5,r5,rfl,hT5,_,_⟩:=hT1.hasS w2
 cases h
 refine⟨hT5,?_⟩
 obtain⟨E1,a1,a2⟩:=qbu _ t r d w1
 obtain⟨E2,b1,b2⟩:=gx.m rfl
 obtain⟨E3,c1,c2⟩:=qbu _ t5 r5 d w2
 refine qa9 rfl Tryz.func271 rfl (by kernel_rfl) (m:=53) rfl ?_;simp only[Z3,simprocAttr,Tryz.f271,qhf,effs,qe9,k3,k2,k1,t1,t2,t3,t4,a1,a2,b1,b2,c1,c2]
 exact qfa (ts:=r5) (d:=d) (.inl rfl) rfl rfl (qit _) rfl rfl
end Go.Ab
namespace Go.Ab
open Go Go.Ab.Tab
theorem qwv:∀(n:Nat) (e0 e:PExpr) (ts ts':List PTok),TsOk ts→qdf n e0 ts= .ok e ts'→TsOk ts'
 |0,_,_,_,_,_,h=>by cases h
 |n+1,e0,e,ts,ts',hT,h=>by
  simp only[qdf]at h
  split at h
  ·rename_i hh
   obtain⟨t,r,rfl,hTr,_,_⟩:=hT.hasS hh
   obtain⟨t1,r1,q1,s1,h1⟩:=qb8 h
   simp only[wf]at q1
   subst q1
   have hT1:=hTr.tail (by rw[s1];decide)
   obtain⟨w1,h2⟩:=qa8 h1
   obtain⟨t2,r2,rfl,hT2,_,_⟩:=hT1.hasS w1
   obtain⟨t3,r3,q3,s3,h3⟩:=qb8 h2
   simp only[wf]at q3
   subst q3
   have hT3:=hT2.tail (by rw[s3];decide)
   obtain⟨w2,h4⟩:=qa8 h3
   obtain⟨t4,r4,rfl,hT4,_,_⟩:=hT3.hasS w2
   exact qwv n _ _ _ _ hT4 h4
  ·cases h;exact hT
structure WhSt where
 n:Nat
 left:PExpr
 tk:Tk
 ts:List PTok
theorem sampled_c {m:Nat} {R:Rd} (hR:HypE R) (hLen:LenR R) {d:Nat} (hA:HypA m R d) {ts ts':List PTok} {e:PExpr} (hT:TsOk ts) (h:qdz m R d ts= .ok e ts'):
 TsOk ts'∧RdE 247 [] ts d e ts':=by
 unfold qdz at h
 obtain⟨a,ts1,ha,h⟩:=PR.bind_ok h
 obtain⟨hT1,ga⟩:=atom_c hR hLen hA hT ha
 obtain⟨b,ts2,hbb,h⟩:=PR.bind_ok h
 obtain⟨E,e1,e2⟩:=ga.m rfl
 rw[a.cells_eq,show qag a.cons= .slice (a.cons.map fun s=>[.str s]) .free from rfl]at e1
 obtain⟨t1,r1,rfl⟩:=hT1.ne
 unfold RdE
 cases hev:(a.op==14 && hasS [101,118,101,114,121] (t1::r1))
 ·rw[hev]at hbb
  simp only[wh,if_false]at hbb
  cases hbb
  refine⟨qwv _ _ _ _ _ hT1 h,?_⟩
  cases k14:(a.op==14)
  ·refine qa9 rfl Tryz.func247 rfl (by kernel_rfl) (m:=38) rfl ?_;simp only[Z3,simprocAttr,Tryz.f247,qcd,effs,e1,e2,k14]
   generalize hb:qan PP cmp0 C lpC _=f;generalize hl:lpC f _=r
   obtain⟨ex,s',rfl,⟨rfl,tk',h2⟩⟩:=qe2 (α:=WhSt) hl [4,5,20,21,22,23,24,25,26,27,28,29,30,31,32,33,34,35,36,37] (fun _=>[]) (fun a=>[.box (pbox a.ts d),.box qa1,.box (a.left.cellsT a.tk)]) (fun a=>TsOk a.ts∧qdf a.n a.left a.ts= .ok e ts') (fun a=>a.n) (fun _=>())
    (fun ts _ ex s=>ex= .exit 0∧∃tk,At [4,5,20,21,22,23,24,25,26,27,28,29,30,31,32,33,34,35,36,37] ts [.box (pbox ts' d),.box qa1,.box (e.cellsT tk)] [] s) ⟨m,a,.free,t1::r1⟩ ⟨hT1,h⟩ (At.of [] (by simp only[ats]<;>rfl) (by simp only[ww]<;>first|rfl|(rw[PExpr.cells_eq];rfl))) (by
     rintro⟨n,left,tk,ts⟩ j H dd ⟨hTs,hp⟩
     clear hl;subst hb
     simp only at hTs hp ⊢
     cases n with
     |zero=>cases hp
     |succ n=>
      obtain⟨t,r,rfl⟩:=hTs.ne
      simp only[qdf]at hp
      cases hh:hasS [119,104,101,110] (t::r)
      ·rw[hh]at hp
       simp only[wh,if_false]at hp
       cases hp
       have c1:=qe4 [119,104,101,110] (by decide) t r d hh
       simp only[Z3,simprocAttr,effs,qcd,PExpr.cellsT,qa1,c1]
       exact .inr ⟨_,_,rfl,by simp,rfl,tk,At.of _ (by simp only[ats]<;>rfl) (by simp only[we,wc,wd]<;>rfl)⟩
      ·rw[hh]at hp
       simp only[if_true]at hp
       obtain⟨_,_,hc,hTr,_,_⟩:=hTs.hasS hh
       cases hc
       obtain⟨t1,r1,q1,s1,g1⟩:=qb8 hp
       simp only[wf]at q1
       subst q1
       have hT1:=hTr.tail (by rw[s1];decide)
       obtain⟨w1,g2⟩:=qa8 g1
       obtain⟨t2,r2,rfl,hT2,_,_⟩:=hT1.hasS w1
       obtain⟨t3,r3,q3,s3,g3⟩:=qb8 g2
       simp only[wf]at q3
       subst q3
       have hT3:=hT2.tail (by rw[s3];decide)
       obtain⟨w2,g4⟩:=qa8 g3
       obtain⟨t4,r4,rfl,hT4,_,_⟩:=hT3.hasS w2
       obtain⟨V1,a1,a2⟩:=qdh _ t (t1::t2::t3::t4::r4) d hh
       obtain⟨V2,b1,b2⟩:=met (qf1 t1 (t2::t3::t4::r4) d s1) rfl (qaa _ _) (qaa _ _) rfl
       obtain⟨V3,c1,c2⟩:=qbu _ t2 (t3::t4::r4) d w1
       obtain⟨V4,d1,d2⟩:=met (qd3 t3 (t4::r4) d s3) rfl (qaa _ _) (qaa _ _) rfl
       obtain⟨V5,f1,f2⟩:=qbu _ t4 r4 d w2
       simp only[Z3,simprocAttr,effs,qcd,PExpr.cellsT,qa1,a1,a2,b1,b2,c1,c2,d1,d2,f1,f2]
       exact .inl ⟨⟨n,qhi t3.text t1.text left,.full,r4⟩,_,rfl,⟨hT4,g4⟩,At.of _ (by simp only[ats]<;>rfl) (by simp only[we,wc,wd];rw[show[AVal.int .i64 left.op,.str left.name,.int .i64 left.n,.slice (left.cons.map fun s=>[.str s]) .free,.slice (left.kids.map PExpr.cells) .free]=left.cells from left.cells_eq.symm];rfl),by simp only[];omega,trivial⟩)
   obtain⟨j,H,dd,rfl⟩:=h2.elim
   clear hl
   simp only[Z3,simprocAttr,effs,qcd]
   exact qfa (ts:=ts') (d:=d) (.inl rfl) rfl rfl (qlx e tk') rfl rfl
  ·have k2:hasS [101,118,101,114,121] (t1::r1)=false:=by rw[k14]at hev;simpa using hev
   have c0:=qe4 [101,118,101,114,121] (by decide) t1 r1 d k2
   refine qa9 rfl Tryz.func247 rfl (by kernel_rfl) (m:=38) rfl ?_;simp only[Z3,simprocAttr,Tryz.f247,qcd,effs,e1,e2,k14,c0]
   generalize hb:qan PP cmp0 C lpC _=f;generalize hl:lpC f _=r
   obtain⟨ex,s',rfl,⟨rfl,tk',h2⟩⟩:=qe2 (α:=WhSt) hl [4,5,20,21,22,23,24,25,26,27,28,29,30,31,32,33,34,35,36,37] (fun _=>[]) (fun a=>[.box (pbox a.ts d),.box qa1,.box (a.left.cellsT a.tk)]) (fun a=>TsOk a.ts∧qdf a.n a.left a.ts= .ok e ts') (fun a=>a.n) (fun _=>())
    (fun ts _ ex s=>ex= .exit 0∧∃tk,At [4,5,20,21,22,23,24,25,26,27,28,29,30,31,32,33,34,35,36,37] ts [.box (pbox ts' d),.box qa1,.box (e.cellsT tk)] [] s) ⟨m,a,.free,t1::r1⟩ ⟨hT1,h⟩ (At.of [] (by simp only[ats]<;>rfl) (by simp only[ww]<;>first|rfl|(rw[PExpr.cells_eq];rfl))) (by
     rintro⟨n,left,tk,ts⟩ j H dd ⟨hTs,hp⟩
     clear hl;subst hb
     simp only at hTs hp ⊢
     cases n with
     |zero=>cases hp
     |succ n=>
      obtain⟨t,r,rfl⟩:=hTs.ne
      simp only[qdf]at hp
      cases hh:hasS [119,104,101,110] (t::r)
      ·rw[hh]at hp
       simp only[wh,if_false]at hp
       cases hp
       have c1:=qe4 [119,104,101,110] (by decide) t r d hh
       simp only[Z3,simprocAttr,effs,qcd,PExpr.cellsT,qa1,c1]
       exact .inr ⟨_,_,rfl,by simp,rfl,tk,At.of _ (by simp only[ats]<;>rfl) (by simp only[we,wc,wd]<;>rfl)⟩
      ·rw[hh]at hp
       simp only[if_true]at hp
       obtain⟨_,_,hc,hTr,_,_⟩:=hTs.hasS hh
       cases hc
       obtain⟨t1,r1,q1,s1,g1⟩:=qb8 hp
       simp only[wf]at q1
       subst q1
       have hT1:=hTr.tail (by rw[s1];decide)
       obtain⟨w1,g2⟩:=qa8 g1
       obtain⟨t2,r2,rfl,hT2,_,_⟩:=hT1.hasS w1
       obtain⟨t3,r3,q3,s3,g3⟩:=qb8 g2
       simp only[wf]at q3
       subst q3
       have hT3:=hT2.tail (by rw[s3];decide)
       obtain⟨w2,g4⟩:=qa8 g3
       obtain⟨t4,r4,rfl,hT4,_,_⟩:=hT3.hasS w2
       obtain⟨V1,a1,a2⟩:=qdh _ t (t1::t2::t3::t4::r4) d hh
       obtain⟨V2,b1,b2⟩:=met (qf1 t1 (t2::t3::t4::r4) d s1) rfl (qaa _ _) (qaa _ _) rfl
       obtain⟨V3,c1,c2⟩:=qbu _ t2 (t3::t4::r4) d w1
       obtain⟨V4,d1,d2⟩:=met (qd3 t3 (t4::r4) d s3) rfl (qaa _ _) (qaa _ _) rfl
       obtain⟨V5,f1,f2⟩:=qbu _ t4 r4 d w2
       simp only[Z3,simprocAttr,effs,qcd,PExpr.cellsT,qa1,a1,a2,b1,b2,c1,c2,d1,d2,f1,f2]
       exact .inl ⟨⟨n,qhi t3.text t1.text left,.full,r4⟩,_,rfl,⟨hT4,g4⟩,At.of _ (by simp only[ats]<;>rfl) (by simp only[we,wc,wd];rw[show[AVal.int .i64 left.op,.str left.name,.int .i64 left.n,.slice (left.cons.map fun s=>[.str s]) .free,.slice (left.kids.map PExpr.cells) .free]=left.cells from left.cells_eq.symm];rfl),by simp only[];omega,trivial⟩)
   obtain⟨j,H,dd,rfl⟩:=h2.elim
   clear hl
   simp only[Z3,simprocAttr,effs,qcd]
   exact qfa (ts:=ts') (d:=d) (.inl rfl) rfl rfl (qlx e tk') rfl rfl
 ·rw[hev]at hbb
  simp only[if_true,wf]at hbb
  simp only[Bool.and_eq_true]at hev
  obtain⟨_,_,hc,hTr,_,_⟩:=hT1.hasS hev.2
  cases hc
  obtain⟨k,ts3,hk,hbb⟩:=PR.bind_ok hbb
  cases hbb
  obtain⟨hT3,gk,_⟩:=hR _ _ _ _ _ hTr hk
  refine⟨qwv _ _ _ _ _ hT3 h,?_⟩
  obtain⟨V,v1,v2⟩:=qdh _ t1 r1 d hev.2
  obtain⟨K,y1,y2,y3⟩:=(gk rfl).m3 rfl
  have k14:=hev.1
  refine qa9 rfl Tryz.func247 rfl (by kernel_rfl) (m:=38) rfl ?_;simp only[Z3,simprocAttr,Tryz.f247,qcd,effs,e1,e2,k14,v1,v2,y1,y2,qgs,qew,qmw _ _ _ _]
  rw[qct]
  ·simp only[Z3,simprocAttr,effs,qcd,y2,qgs,qew,qmw _ _ _ _]
   generalize hb:qan PP cmp0 C lpC _=f;generalize hl:lpC f _=r
   obtain⟨ex,s',rfl,⟨rfl,tk',h2⟩⟩:=qe2 (α:=WhSt) hl [4,5,20,21,22,23,24,25,26,27,28,29,30,31,32,33,34,35,36,37] (fun _=>[]) (fun a=>[.box (pbox a.ts d),.box qa1,.box (a.left.cellsT a.tk)]) (fun a=>TsOk a.ts∧qdf a.n a.left a.ts= .ok e ts') (fun a=>a.n) (fun _=>())
    (fun ts _ ex s=>ex= .exit 0∧∃tk,At [4,5,20,21,22,23,24,25,26,27,28,29,30,31,32,33,34,35,36,37] ts [.box (pbox ts' d),.box qa1,.box (e.cellsT tk)] [] s) ⟨m,qfj a k,.free,ts2⟩ ⟨hT3,h⟩ (At.of [] (by simp only[ats]<;>rfl) (by simp only[ww]<;>first|rfl|(rw[PExpr.cells_eq];rfl))) (by
     rintro⟨n,left,tk,ts⟩ j H dd ⟨hTs,hp⟩
     clear hl;subst hb
     simp only at hTs hp ⊢
     cases n with
     |zero=>cases hp
     |succ n=>
      obtain⟨t,r,rfl⟩:=hTs.ne
      simp only[qdf]at hp
      cases hh:hasS [119,104,101,110] (t::r)
      ·rw[hh]at hp
       simp only[wh,if_false]at hp
       cases hp
       have c1:=qe4 [119,104,101,110] (by decide) t r d hh
       simp only[Z3,simprocAttr,effs,qcd,PExpr.cellsT,qa1,c1]
       exact .inr ⟨_,_,rfl,by simp,rfl,tk,At.of _ (by simp only[ats]<;>rfl) (by simp only[we,wc,wd]<;>rfl)⟩
      ·rw[hh]at hp
       simp only[if_true]at hp
       obtain⟨_,_,hc,hTr,_,_⟩:=hTs.hasS hh
       cases hc
       obtain⟨t1,r1,q1,s1,g1⟩:=qb8 hp
       simp only[wf]at q1
       subst q1
       have hT1:=hTr.tail (by rw[s1];decide)
       obtain⟨w1,g2⟩:=qa8 g1
       obtain⟨t2,r2,rfl,hT2,_,_⟩:=hT1.hasS w1
       obtain⟨t3,r3,q3,s3,g3⟩:=qb8 g2
       simp only[wf]at q3
       subst q3
       have hT3:=hT2.tail (by rw[s3];decide)
       obtain⟨w2,g4⟩:=qa8 g3
       obtain⟨t4,r4,rfl,hT4,_,_⟩:=hT3.hasS w2
       obtain⟨V1,a1,a2⟩:=qdh _ t (t1::t2::t3::t4::r4) d hh
       obtain⟨V2,b1,b2⟩:=met (qf1 t1 (t2::t3::t4::r4) d s1) rfl (qaa _ _) (qaa _ _) rfl
       obtain⟨V3,c1,c2⟩:=qbu _ t2 (t3::t4::r4) d w1
       obtain⟨V4,d1,d2⟩:=met (qd3 t3 (t4::r4) d s3) rfl (qaa _ _) (qaa _ _) rfl
       obtain⟨V5,f1,f2⟩:=qbu _ t4 r4 d w2
       simp only[Z3,simprocAttr,effs,qcd,PExpr.cellsT,qa1,a1,a2,b1,b2,c1,c2,d1,d2,f1,f2]
       exact .inl ⟨⟨n,qhi t3.text t1.text left,.full,r4⟩,_,rfl,⟨hT4,g4⟩,At.of _ (by simp only[ats]<;>rfl) (by simp only[we,wc,wd];rw[show[AVal.int .i64 left.op,.str left.name,.int .i64 left.n,.slice (left.cons.map fun s=>[.str s]) .free,.slice (left.kids.map PExpr.cells) .free]=left.cells from left.cells_eq.symm];rfl),by simp only[];omega,trivial⟩)
   obtain⟨j,H,dd,rfl⟩:=h2.elim
   clear hl
   simp only[Z3,simprocAttr,effs,qcd]
   exact qfa (ts:=ts') (d:=d) (.inl rfl) rfl rfl (qlx e tk') rfl rfl
  ·kernel_rfl
  ·have z2:=y3 [Blk.box qa1,Blk.box (a.cellsT .free)] 2 (by omega) (by simp)
   unfold qa1 PExpr.cellsT at z2
   simp only[qaj,qb1,qae,qcs,z2,wq,wz,wv,wj,wk]
end Go.Ab
namespace Go.Ab
open Go Go.Ab.Tab
theorem met1 {f:FuncId} {rest:List AVal} {x y:List AVal} {v:AVal} (g:qbj C f (.ptr 0 0::rest) [.box x] v [.box y]) (hr:qad rest=[]) (px:qad x=[]) (py:qad y=[]) (hv:refs v=[]):
 ∃E:Blk→qab→Eff,(∀a H,qai C (a:: .box x::H) f (.ptr 1 0::rest)=some (.ret v (E a H)))∧∀a H,(E a H).of (a:: .box x::H)=a:: .box y::H:=by
 have h:∀a H,∃E:Eff,qai C (a:: .box x::H) f (.ptr 1 0::rest)=some (.ret v E)∧E.of (a:: .box x::H)=a:: .box y::H:=fun a H=>qel qao (b:=1) (H:=a:: .box x::H) hr rfl px py g hv
 exact⟨fun a H=>(h a H).choose,fun a H=>(h a H).choose_spec.1,fun a H=>(h a H).choose_spec.2⟩
def armC (c:Str) (e:PExpr):List AVal:= .str c::e.cells
theorem qm5 (c:Str) (e:PExpr):qad (armC c e)=[]:=by
 unfold armC;simp only[qad,refs,e.norefs,wd]
theorem qww (c:Str) (e:PExpr):(armC c e).length=6:=by unfold armC;simp[e.len]
theorem res_a {s:St} {k b:Nat} {cs:List AVal} (h1:s.tmps[k]? =some (.ptr b 0)) (h2:s.heap[b]? =some (.box cs)) (h3:cs.length=6):resA PP [.cell k 290] s=some [.agg cs]:=by
 simp only[resA,h1,qgd,h2,qfp,qx6,qtr,List.drop_zero]
 rw[List.take_of_length_le (by omega),if_pos h3]
theorem q25 (n:Nat) (H:qab) (b p:Nat) (hb:H[b]? =some (.box [.ptr p 0])) (hp:p<n):qiz n H b:=by
 refine⟨_,hb,fun mv=> ?_⟩
 unfold qho
 rw[hb]
 simp[qd8,lowA,refs,hp]
theorem arm_c {R:Rd} (hR:HypE R) {d:Nat} {t t1:PTok} {r1 ts':List PTok} {e:PExpr} (hs:t.sort=2) (hw:hasS [45,62] (t1::r1)=true) (hT:TsOk r1) (h:R d 1 r1= .ok e ts'):
 TsOk ts'∧qbj C 299 [.ptr 0 0] [.box [.ptr 1 0],.box (pbox (t::t1::r1) d)] (.agg (armC t.text e)) [.box [.ptr 1 0],.box (pbox ts' d)]:=by
 obtain⟨hT',ge⟩:=qdy hR hT h
 refine⟨hT',?_⟩
 obtain⟨E1,a1,a2⟩:=met1 (qf1 t (t1::r1) d hs) rfl (qaa _ _) (qaa _ _) rfl
 obtain⟨E2,b1,b2⟩:=met1 (qh3 _ t1 r1 d hw) rfl (qaa _ _) (qaa _ _) rfl
 obtain⟨E3,c1,c2⟩:=met1 ge rfl (qaa _ _) (qaa _ _) (by simp only[refs];exact e.norefs)
 rw[e.cells_eq,show qag e.cons= .slice (e.cons.map fun s=>[.str s]) .free from rfl]at c1
 refine qa9 rfl Tryz.func299 rfl (by kernel_rfl) (m:=11) rfl ?_;simp only[Z3,simprocAttr,Tryz.f299,qyh,effs,a1,a2,b1,b2,c1,c2]
 exact qc3 (.inl rfl) (res_a rfl rfl rfl) (by show AVal.agg (List.map qbk _)=_;unfold armC;rw[e.cells_eq];rfl) (by simp only[lowA,refs,qm5];rfl) (fun b hb=>by
  rcases wca b 1 with h0|h0
  ·obtain rfl:b=0:=wt.1 h0
   exact q25 _ _ 0 1 rfl (by decide)
  ·obtain rfl:b=1:=by omega
   exact qe3 _ _ ts' d _ rfl) rfl
end Go.Ab
namespace Go.Ab
open Go Go.Ab.Tab
theorem take2 {H:qab} {x y:Blk} (h:H[0]? =some x) (k:H[1]? =some y):H.take 2=[x,y]:=by
 cases H with
 |nil=>cases h
 |cons a b=>
  cases b with
  |nil=>simp at k
  |cons b c=>simp at h k;simp[h,k]
theorem armX (c:Str) (e:PExpr):armC c e=[.str c,.int .i64 e.op,.str e.name,.int .i64 e.n,.slice (e.cons.map fun s=>[.str s]) .free,.slice (e.kids.map PExpr.cells) .free]:=by
 unfold armC;rw[e.cells_eq];rfl
theorem arms6 (l:List (Str×PExpr)):∀c∈l.map (fun x=>armC x.1 x.2),c.length=6:=by
 intro c hc;obtain⟨s,_,rfl⟩:=w9.1 hc;exact qww _ _
theorem qpk {h:qab} {f:FuncId} {v:AVal} {x y:List AVal} (h0:h[0]? =some (.box x)) (h1:h[1]? =some (.box [.ptr 0 0])) (px:qad x=[]) (py:qad y=[])
 (g:qbj C f [.ptr 0 0] [.box [.ptr 1 0],.box x] v [.box [.ptr 1 0],.box y]) (hv:refs v=[]):qon C h f [.ptr 1 0] v (h.set 0 (.box y)):=by
 have l0:=(wa.1 h0).1
 have l1:=(wa.1 h1).1
 refine qj5 qao [1,0] (by simp[qc0,qad,refs,h0,h1,px]) (by simp) (by unfold qdo;simp[qad,refs,h0,h1,qdx,px]) (?_:qbj C f _ (subH h [1,0]) v [.box [.ptr 1 0],.box y]) hv ?_
 ·have e1:subH h [1,0]=[.box [.ptr 1 0],.box x]:=by
   simp[subH,List.getD_eq_getElem?_getD,h0,h1,renB,qbw px,renL,ren];rfl
  have e2:renL (fun x=>[1,0].idxOf x) [.ptr 1 0]=[.ptr 0 0]:=by simp[renL,ren]
  rw[e1,e2];exact g
 ·intro H' k
  apply waa
  intro i
  match i with
  |0=>rw[k.inn 1 0 rfl,wg l0];simp[renB,qbw py]
  |1=>rw[k.inn 0 1 rfl,wi (by decide),h1];simp[renB,renL,ren,qft]
  |i+2=>
   rw[wi (by omega)]
   by_cases hi:i+2<h.length
   ·exact k.out (i+2) hi (by simp)
   ·have e3:([Blk.box [.ptr 1 0],Blk.box y]:List Blk)[[1,0].length+(i+2-h.length)]? =none:=wo (by simp)
    have e4:h[i+2]? =none:=wo (by omega)
    rw[k.new (i+2) (by omega),e3,e4]
    rfl
theorem q26 {R:Rd} (hR:HypE R) {o:Nat}:∀(n:Nat) (ts ts':List PTok) (l:List (Str×PExpr)),TsOk ts→qdu R o n ts= .ok l ts'→TsOk ts'
 |0,_,_,_,_,h=>by cases h
 |n+1,ts,ts',l,hT,h=>by
  simp only[qdu]at h
  obtain⟨t0,r0,rfl,hs0,h1⟩:=qb8 h
  have hT0:=hT.tail (by rw[hs0];decide)
  obtain⟨hw0,h2⟩:=qa8 h1
  obtain⟨t1,r1,rfl,hT1,_,_⟩:=hT0.hasS hw0
  obtain⟨e,r,he,h3⟩:=PR.bind_ok h2
  have hTr:=(hR _ _ _ _ _ hT1 he).1
  split at h3
  ·rename_i hh
   obtain⟨l1,ts1,h4,h5⟩:=PR.bind_ok h3
   cases h5
   obtain⟨t2,r2,rfl,hT2,_,_⟩:=hTr.hasS hh
   exact q26 hR n _ _ _ hT2 h4
  ·cases h3;exact hTr
structure ListAt where
 n:Nat
 acc:List (Str×PExpr)
 v:AVal
 ts:List PTok
theorem listA_c {R:Rd} (hR:HypE R) (hLen:LenR R) (d:Nat) {n:Nat} {ts ts':List PTok} {l:List (Str×PExpr)} (hT:TsOk ts) (h:qdu R d n ts= .ok l ts'):
 TsOk ts'∧qbj C 298 [.ptr 0 0,.str [124],.func 299 [] [.ptr 1 0]] [.box (pbox ts d),.box [.ptr 0 0]] (.slice (l.map fun x=>armC x.1 x.2) .free) [.box (pbox ts' d),.box [.ptr 0 0]]:=by
 refine⟨q26 hR n ts ts' l hT h,?_⟩
 cases n with
 |zero=>cases h
 |succ n=>
  simp only[qdu]at h
  obtain⟨t0,r0,rfl,hs0,h⟩:=qb8 h
  have hT0:=hT.tail (by rw[hs0];decide)
  obtain⟨hw0,h⟩:=qa8 h
  obtain⟨t1,r1,rfl,hT1,_,_⟩:=hT0.hasS hw0
  obtain⟨e0,rt,h0,h⟩:=PR.bind_ok h
  obtain⟨hTr,x0⟩:=arm_c hR hs0 hw0 hT1 h0
  obtain⟨E,e1,e2⟩:=qpk (h:=[.box (pbox (t0::t1::r1) d),.box [.ptr 0 0]]) rfl rfl (qaa _ _) (qaa _ _) x0 (by simp only[refs];exact qm5 _ _)
  have e2:E.of [.box (pbox (t0::t1::r1) d),.box [.ptr 0 0]]=[.box (pbox rt d),.box [.ptr 0 0]]:=e2
  rw[armX]at e1
  have hle:=hTr.le
  refine qa9 rfl Tryz.func298 rfl (by kernel_rfl) (m:=17) rfl ?_;simp only[Z3,simprocAttr,Tryz.f298,qlt,effs,e1,e2]
  generalize hb:qan PP cmp0 C lpC _=f;generalize hl:lpC f _=r
  obtain⟨ex,s',rfl,rfl,tk,h2⟩:=qbv (α:=ListAt) hl [11,12,13,14,15,16,17,18] (fun a=>[(7,a.v)]) (fun a h=>h[0]? =some (.box (pbox a.ts d))∧h[1]? =some (.box [.ptr 0 0])∧Grow2 h a.v (a.acc.map fun x=>armC x.1 x.2) 290∧TsOk a.ts∧a.acc.length+a.ts.length≤65538∧(if hasS [124] a.ts=true then(qdu R d a.n a.ts.tail).bind fun l2 ts2=> .ok (a.acc++l2) ts2 else .ok a.acc a.ts)= .ok l ts') (fun a=>a.n) (fun _=>())
   (fun ts _ ex s=>ex= .exit 0∧∃tk,OutT [11,12,13,14,15,16,17,18] ts [(7,.slice (l.map fun x=>armC x.1 x.2) tk)] (fun g=>g[0]? =some (.box (pbox ts' d))∧g[1]? =some (.box [.ptr 0 0])) s) ⟨n,[(t0.text,e0)],.slice [armC t0.text e0] .full,rt⟩ ⟨rfl,rfl,.inl rfl,hTr,by simp only[wb,wm];omega,h⟩ (by rw[armX];simp only[AtT,ats]) (by
    rintro⟨n,acc,v,ts⟩ j G dd ⟨q0,q1,hgr,hTs,hln,hp⟩
    clear hl;subst hb
    simp only at q0 q1 hgr hTs hln hp ⊢
    obtain⟨t,rt,rfl⟩:=hTs.ne
    cases hh:hasS [124] (t::rt)
    ·rw[hh]at hp
     simp only[wh,if_false]at hp
     cases hp
     have c1:=qcm (c:=C) (b:=0) (H:=G) (rest:=[.str [124]]) rfl q0 (qaa _ _) (qif [124] (by decide) t rt d hh) rfl
     simp only[Z3,simprocAttr,effs,qlt,c1]
     obtain⟨tk,hv⟩:∃tk,v= .slice (l.map fun x=>armC x.1 x.2) tk:=by
      rcases hgr with h|⟨_,h,_⟩<;>exact⟨_,h⟩
     subst hv
     exact .inr ⟨_,_,rfl,by simp,rfl,tk,by simp only[OutT,AtT,ats],q0,q1⟩
    ·rw[hh]at hp
     simp only[if_true,wf]at hp
     cases n with
     |zero=>cases hp
     |succ n=>
      obtain⟨l2,ts2,h2,hp⟩:=PR.bind_ok hp
      cases hp
      obtain⟨_,_,hc,hTr,_,_⟩:=hTs.hasS hh
      cases hc
      simp only[qdu]at h2
      obtain⟨t0,r0,rfl,hs0,h2⟩:=qb8 h2
      have hT0:=hTr.tail (by rw[hs0];decide)
      obtain⟨hw0,h2⟩:=qa8 h2
      obtain⟨t1,r1,rfl,hT1,_,_⟩:=hT0.hasS hw0
      obtain⟨x2,r2,h20,h2⟩:=PR.bind_ok h2
      have hlen2:=hLen _ _ _ _ _ h20
      simp only[wf]at hlen2
      obtain⟨hT2,y2⟩:=arm_c hR hs0 hw0 hT1 h20
      obtain⟨E1,hE1,hh1⟩:=qel qao (b:=0) (H:=G) (rest:=[.str [124]]) rfl q0 (qaa _ _) (qaa _ _) (qev [124] t (t0::t1::r1) d hh) rfl
      have l0:=(wa.1 q0).1
      obtain⟨g1,hg1⟩:∃g1,g1=G.set 0 (.box (pbox (t0::t1::r1) d)):=⟨_,rfl⟩
      rw[←hg1]at hh1
      have p1:g1[0]? =some (.box (pbox (t0::t1::r1) d)):=by rw[hg1,wg l0]
      have n1:g1[1]? =some (.box [.ptr 0 0]):=by rw[hg1,wi (by decide)];exact q1
      have gg1:=hgr.set (y:=pbox (t0::t1::r1) d) q0
      rw[←hg1]at gg1
      obtain⟨E2,hE2,hh2⟩:=qpk (h:=g1) p1 n1 (qaa _ _) (qaa _ _) y2 (by simp only[refs];exact qm5 _ _)
      rw[armX]at hE2
      obtain⟨g2,hg2⟩:∃g2,g2=g1.set 0 (.box (pbox r2 d)):=⟨_,rfl⟩
      rw[←hg2]at hh2
      have p2:g2[0]? =some (.box (pbox r2 d)):=by rw[hg2,wg (wa.1 p1).1]
      have n2:g2[1]? =some (.box [.ptr 0 0]):=by rw[hg2,wi (by decide)];exact n1
      have gg2:=gg1.set (y:=pbox r2 d) p1
      rw[←hg2]at gg2
      have hlen:acc.length+1≤qac:=by
       simp only[wb]at hln
       unfold qac;omega
      obtain⟨v3,E3,ha3,gg3,hB3⟩:=qk0 qj1 (fs:=[armC t0.text x2]) gg2 (by simpa using hlen) (arms6 acc) (by intro c hc;simp only[w8,w7,or_false]at hc;subst hc;exact qww _ _) (by simp)
      have p3:=hB3 _ _ p2
      have n3:=hB3 _ _ n2
      rw[armX]at ha3
      simp only[Z3,simprocAttr,effs,qlt,hE1,hh1,hE2,hh2,ha3]
      refine .inl ⟨⟨n,acc++[(t0.text,x2)],v3,r2⟩,_,rfl,⟨p3,n3,by simpa using gg3,hT2,?_,?_⟩,by simp only[AtT,ats],by simp only[];omega,trivial⟩
      ·simp only[w6,wb,wm]at hln ⊢;omega
      ·split at h2
       ·rename_i hh3
        rw[if_pos hh3]
        obtain⟨l3,ts3,h3,h2⟩:=PR.bind_ok h2
        cases h2
        rw[h3]
        simp[PR.bind]
       ·rename_i hh3
        rw[if_neg hh3]
        cases h2
        rfl)
  obtain⟨j,H,dd,⟨q0,q1⟩,rfl⟩:=h2.elim
  clear hl
  simp only[Z3,simprocAttr,effs,qlt]
  exact qc3 (.inl rfl) rfl rfl rfl (fun b hb=>by
   rcases wca b 1 with h0|h0
   ·obtain rfl:b=0:=wt.1 h0
    exact qe3 _ _ ts' d _ q0
   ·obtain rfl:b=1:=by omega
    exact q25 _ _ 1 0 q1 (by decide)) (take2 q0 q1)
end Go.Ab
