/- Does one of a list do? -/
import Derived.Test.YtngklkmeknmloaaGreatDoorAbSim
import Derived.Test.YtngklkmeknmloaaGreatDoorAbTypes
set_option linter.unusedSimpArgs false
set_option linter.unusedVariables false
set_option maxRecDepth 100000
set_option maxHeartbeats 4000000
open Go.Proofs
open List renaming drop_eq_getElem_cons→wa,drop_left→wc,drop_eq_nil_of_le→wd,drop_length→we,getElem_mem→wg,append_nil→wh,drop_zero→wi,any_cons→wk
open Int renaming natCast_zero→wb
open Nat renaming zero_le→wj
namespace Go.Ab
theorem qn5 {call:Call} {h:qab} {g:FuncId} {args:List AVal} {v:AVal} (idx:List Nat) (hidx:qbq h 256 (qad args) []=idx) (hok:qcz h idx args=true)
 (e:call g (renL (fun x=>idx.idxOf x) args) (subH h idx)=some (.ret v .same)) (hv:refs v=[]):qah call h g args=some (.ret v .same):=by
 unfold qah
 simp only[hidx]
 rw[if_pos hok,e]
 simp only[qgf]
 rw[qfu v (by rw[hv];simp)]
theorem qbd {call:Call} {H:qab} {g:FuncId} {b:Nat} {cs:List AVal} {v:AVal} (args:List AVal) (ha:qad args=[b]) (hb:H[b]? =some (.box cs)) (hcs:qad cs=[])
 (e:call g (renL (fun _=>0) args) [.box cs]=some (.ret v .same)) (hv:refs v=[]):qah call H g args=some (.ret v .same):=by
 refine qn5 [b] ?_ ?_ ?_ hv
 ·rw[ha];simp[qbq,hb,hcs]
 ·unfold qcz;simp[ha,hb,qdj,hcs]
 ·have h1:renL (fun x=>List.idxOf x [b]) args=renL (fun _=>0) args:=by
   refine qgn args (fun x hx=> ?_)
   rw[ha]at hx
   simp only[List.mem_cons,List.not_mem_nil,or_false]at hx
   subst hx;simp
  rw[h1]
  have h2:subH H [b]=[.box cs]:=by
   simp only[subH,List.map_cons,List.map_nil,List.getD_eq_getElem?_getD,hb,Option.getD_some,renB]
   rw[qcy cs (by rw[hcs];simp)]
  rw[h2];exact e
def AtD (n:Nat) (junk:List Nat) (ts0:List AVal) (H0:qab) (w:List (Nat×AVal)) (s:St):Prop:=At junk ts0 H0 w s∧∀x∈s.dirty,n≤x
theorem AtD.elim {n:Nat} {junk:List Nat} {ts0:List AVal} {H0:qab} {w:List (Nat×AVal)} {s:St} (h:AtD n junk ts0 H0 w s):
 ∃(j:Nat→AVal) (H:qab) (d:List Nat),(∀x∈d,n≤x)∧s=⟨upd (w++junk.map fun k=>(k,j k)) ts0,H0++H,d⟩:=⟨_,_,s.dirty,h.2,h.1⟩
def RoundD {α R:Type} (n:Nat) (junk:List Nat) (ts0:List AVal) (H0:qab) (w:α→List (Nat×AVal)) (I:α→Prop) (μ:α→Nat) (den:α→R) (Post:R→AEx→St→Prop) (a:α) (r:Option (AEx×St)):Prop:=
 (∃a' s',r=some (.normal,s')∧I a'∧AtD n junk ts0 H0 (w a') s'∧μ a'<μ a∧den a'=den a)∨
 (∃ex s',r=some (ex,s')∧(∀s1:St,(ex,s')≠(AEx.normal,s1))∧Post (den a) ex s')
theorem qpp {α R:Type} (n:Nat) {f:St→Option (AEx×St)} {ts0:List AVal} {H0:qab} {d0:List Nat} {r:Option (AEx×St)} (hl:lpC f ⟨ts0,H0,d0⟩=r)
 (junk:List Nat) (w:α→List (Nat×AVal)) (I:α→Prop) (μ:α→Nat) (den:α→R) (Post:List AVal→qab→R→AEx→St→Prop) (a0:α) (h0:I a0)
 (hw:AtD n junk ts0 H0 (w a0) ⟨ts0,H0,d0⟩)
 (hs:∀a (j:Nat→AVal) H d,I a→(∀x∈d,n≤x)→RoundD n junk ts0 H0 w I μ den (Post ts0 H0) a (f ⟨upd (w a++junk.map fun k=>(k,j k)) ts0,H0++H,d⟩)):
 ∃ex s',r=some (ex,s')∧Post ts0 H0 (den a0) ex s':=by
 subst hl
 refine qtd μ den (fun a s=>I a∧AtD n junk ts0 H0 (w a) s) (Post ts0 H0) ?_ (μ a0) a0 _ (Nat.le_refl _) ⟨h0,hw⟩
 rintro a s ⟨hi,ha⟩
 obtain⟨j,H,d,hd,rfl⟩:=ha.elim
 rcases hs a j H d hi hd with⟨a',s',h1,h2,h3,h4,h5⟩|h
 ·exact .inl ⟨a',s',h1,⟨h2,h3⟩,h4,h5⟩
 ·exact .inr h
theorem qa3 (n:Nat) (v:AVal) (h:qab) (d:List Nat) (hd:∀x∈d,n≤x) (hr:refs (strip3 v)=[]):qbf n v h d=(strip3 v,.same):=by
 have hd':d.filter (· <n)=[]:=by
  rw[List.filter_eq_nil_iff]
  intro x hx
  have:=hd x hx
  simp;omega
 unfold qbf
 simp only[hd',qgg]
 rw[if_pos (by unfold lowA;rw[hr];rfl)]
end Go.Ab
namespace Go.Ab
open Go Go.Ab.Tab
def idxP {α:Type} (p:α→Bool):List α→Nat→Int
 |[],_=> -1
 |x::r,i=>if p x then(i:Int)else idxP p r (i+1)
theorem qju {α:Type} (p:α→Bool):∀(l:List α) (i:Nat),decide (0≤idxP p l i)=l.any p
 |[],i=>by simp[idxP]
 |x::r,i=>by
  by_cases h:p x=true
  ·simp only[idxP,wk,h,if_true,Bool.true_or]
   exact decide_eq_true (Int.natCast_nonneg i)
  ·have h':p x=false:=by simpa using h
   simp only[idxP,wk,h',Bool.false_or]
   exact qju p r (i+1)
theorem quw (l:List Str) (hl:l.length≤qac) (g:FuncId) (fst cap:List AVal) (B:qab) (p:Str→Bool) (hp:∀x∈l,∀H,qah C (B++H) g (fst++(.str x)::cap)=some (.ret (.bool (p x)) .same)):
 C 241 [.slice (l.map (fun s=>[AVal.str s])) .free,.func g fst cap] B=some (.ret (.int .i64 (idxP p l 0)) .same):=by
 rw[C_fn rfl Tryz.func241 rfl (by kernel_rfl) (m:=17) rfl];simp only[Z3,simprocAttr,Tryz.f241,fx_241]
 generalize hb:qam PP cmp0 C lpC _=f;generalize hl0:lpC f _=r
 obtain⟨ex,s',rfl,h2⟩:=qpp (α:=Nat) B.length hl0 [4,5,9,10,11,12,13,14,15,16,17,18] (fun i=>[(8,.int .i64 i)]) (fun i=>i≤l.length) (fun i=>l.length-i) (fun i=>idxP p (l.drop i) i)
  (fun ts H r ex st=>(ex= .exit 0∧r= -1∧AtD B.length [4,5,8,9,10,11,12,13,14,15,16,17,18] ts H [] st)∨(ex= .ret∧AtD B.length [5,8,9,10,11,12,13,14,15,16,17,18] ts H [(4,.int .i64 r)] st)) 0 (wj _) ⟨by simp only[At,ats,wb,we,wh],by simp⟩ (by
   intro i j H d hi hd
   clear hl0;subst hb
   by_cases hlt:i<l.length
   ·have e1:((i:Int)<(l.length:Int)):=by omega
    have e3:(l.map (fun s=>[AVal.str s]))[i]? =some ((fun s=>[AVal.str s]) l[i]):=by simp[hlt]
    have e5:=hp l[i] (wg hlt)
    simp only[Z3,simprocAttr,fx_241,ty,e1,e3,e5]
    cases hc:p l[i]
    ·simp only[Z3,simprocAttr,qav (show i≤qac by omega)]
     exact .inl ⟨i+1,_,rfl,hlt,⟨by simp only[At,ats,wb,wc],hd⟩,by simp only[];omega,by simp only[wa hlt,idxP,hc];rfl⟩
    ·simp only[Z3,simprocAttr]
     exact .inr ⟨_,_,rfl,by simp,.inr ⟨rfl,by simp only[wa hlt,idxP,hc,if_true,At,ats,wc],hd⟩⟩
   ·have e1:¬((i:Int)<(l.length:Int)):=by omega
    simp only[Z3,simprocAttr,fx_241,e1]
    exact .inr ⟨_,_,rfl,by simp,.inl ⟨rfl,by simp only[];rw[wd (by omega)];rfl,by simp only[At,ats,wb,wc],hd⟩⟩)
 rw[wi]at h2
 rcases h2 with⟨rfl,hr,h2⟩|⟨rfl,h2⟩
 ·obtain⟨j,H,d,hd,rfl⟩:=h2.elim
  clear hl0
  simp only[Z3,simprocAttr,hr,qa3 B.length _ _ d hd,qfd]
 ·obtain⟨j,H,d,hd,rfl⟩:=h2.elim
  clear hl0
  simp only[Z3,simprocAttr,qa3 B.length _ _ d hd,qfd]
theorem qzu (l:List PExpr) (hl:l.length≤qac) (g:FuncId) (fst cap:List AVal) (B:qab) (p:PExpr→Bool) (hp:∀x∈l,∀H,qah C (B++H) g (fst++(.agg x.cells)::cap)=some (.ret (.bool (p x)) .same)):
 C 296 [.slice (l.map PExpr.cells) .free,.func g fst cap] B=some (.ret (.int .i64 (idxP p l 0)) .same):=by
 rw[C_fn rfl Tryz.func296 rfl (by kernel_rfl) (m:=17) rfl];simp only[Z3,simprocAttr,Tryz.f296,fx_296]
 generalize hb:qam PP cmp0 C lpC _=f;generalize hl0:lpC f _=r
 obtain⟨ex,s',rfl,h2⟩:=qpp (α:=Nat) B.length hl0 [4,5,9,10,11,12,13,14,15,16,17,18] (fun i=>[(8,.int .i64 i)]) (fun i=>i≤l.length) (fun i=>l.length-i) (fun i=>idxP p (l.drop i) i)
  (fun ts H r ex st=>(ex= .exit 0∧r= -1∧AtD B.length [4,5,8,9,10,11,12,13,14,15,16,17,18] ts H [] st)∨(ex= .ret∧AtD B.length [5,8,9,10,11,12,13,14,15,16,17,18] ts H [(4,.int .i64 r)] st)) 0 (wj _) ⟨by simp only[At,ats,wb,we,wh],by simp⟩ (by
   intro i j H d hi hd
   clear hl0;subst hb
   by_cases hlt:i<l.length
   ·have e1:((i:Int)<(l.length:Int)):=by omega
    have e3:(l.map PExpr.cells)[i]? =some (PExpr.cells l[i]):=by simp[hlt]
    have e5:=hp l[i] (wg hlt)
    simp only[Z3,simprocAttr,fx_296,ty,e1,e3,e5]
    cases hc:p l[i]
    ·simp only[Z3,simprocAttr,qav (show i≤qac by omega)]
     exact .inl ⟨i+1,_,rfl,hlt,⟨by simp only[At,ats,wb,wc],hd⟩,by simp only[];omega,by simp only[wa hlt,idxP,hc];rfl⟩
    ·simp only[Z3,simprocAttr]
     exact .inr ⟨_,_,rfl,by simp,.inr ⟨rfl,by simp only[wa hlt,idxP,hc,if_true,At,ats,wc],hd⟩⟩
   ·have e1:¬((i:Int)<(l.length:Int)):=by omega
    simp only[Z3,simprocAttr,fx_296,e1]
    exact .inr ⟨_,_,rfl,by simp,.inl ⟨rfl,by simp only[];rw[wd (by omega)];rfl,by simp only[At,ats,wb,wc],hd⟩⟩)
 rw[wi]at h2
 rcases h2 with⟨rfl,hr,h2⟩|⟨rfl,h2⟩
 ·obtain⟨j,H,d,hd,rfl⟩:=h2.elim
  clear hl0
  simp only[Z3,simprocAttr,hr,qa3 B.length _ _ d hd,qfd]
 ·obtain⟨j,H,d,hd,rfl⟩:=h2.elim
  clear hl0
  simp only[Z3,simprocAttr,qa3 B.length _ _ d hd,qfd]
theorem qx0 (l:List PState) (hl:l.length≤qac) (g:FuncId) (fst cap:List AVal) (B:qab) (p:PState→Bool) (hp:∀x∈l,∀H,qah C (B++H) g (fst++(.agg x.cells)::cap)=some (.ret (.bool (p x)) .same)):
 C 229 [.slice (l.map PState.cells) .free,.func g fst cap] B=some (.ret (.int .i64 (idxP p l 0)) .same):=by
 rw[C_fn rfl Tryz.func229 rfl (by kernel_rfl) (m:=17) rfl];simp only[Z3,simprocAttr,Tryz.f229,fx_229]
 generalize hb:qam PP cmp0 C lpC _=f;generalize hl0:lpC f _=r
 obtain⟨ex,s',rfl,h2⟩:=qpp (α:=Nat) B.length hl0 [4,5,9,10,11,12,13,14,15,16,17,18] (fun i=>[(8,.int .i64 i)]) (fun i=>i≤l.length) (fun i=>l.length-i) (fun i=>idxP p (l.drop i) i)
  (fun ts H r ex st=>(ex= .exit 0∧r= -1∧AtD B.length [4,5,8,9,10,11,12,13,14,15,16,17,18] ts H [] st)∨(ex= .ret∧AtD B.length [5,8,9,10,11,12,13,14,15,16,17,18] ts H [(4,.int .i64 r)] st)) 0 (wj _) ⟨by simp only[At,ats,wb,we,wh],by simp⟩ (by
   intro i j H d hi hd
   clear hl0;subst hb
   by_cases hlt:i<l.length
   ·have e1:((i:Int)<(l.length:Int)):=by omega
    have e3:(l.map PState.cells)[i]? =some (PState.cells l[i]):=by simp[hlt]
    have e5:=hp l[i] (wg hlt)
    simp only[Z3,simprocAttr,fx_229,ty,e1,e3,e5]
    cases hc:p l[i]
    ·simp only[Z3,simprocAttr,qav (show i≤qac by omega)]
     exact .inl ⟨i+1,_,rfl,hlt,⟨by simp only[At,ats,wb,wc],hd⟩,by simp only[];omega,by simp only[wa hlt,idxP,hc];rfl⟩
    ·simp only[Z3,simprocAttr]
     exact .inr ⟨_,_,rfl,by simp,.inr ⟨rfl,by simp only[wa hlt,idxP,hc,if_true,At,ats,wc],hd⟩⟩
   ·have e1:¬((i:Int)<(l.length:Int)):=by omega
    simp only[Z3,simprocAttr,fx_229,e1]
    exact .inr ⟨_,_,rfl,by simp,.inl ⟨rfl,by simp only[];rw[wd (by omega)];rfl,by simp only[At,ats,wb,wc],hd⟩⟩)
 rw[wi]at h2
 rcases h2 with⟨rfl,hr,h2⟩|⟨rfl,h2⟩
 ·obtain⟨j,H,d,hd,rfl⟩:=h2.elim
  clear hl0
  simp only[Z3,simprocAttr,hr,qa3 B.length _ _ d hd,qfd]
 ·obtain⟨j,H,d,hd,rfl⟩:=h2.elim
  clear hl0
  simp only[Z3,simprocAttr,qa3 B.length _ _ d hd,qfd]
theorem qzv (l:List PItem) (hl:l.length≤qac) (g:FuncId) (fst cap:List AVal) (B:qab) (p:PItem→Bool) (hp:∀x∈l,∀H,qah C (B++H) g (fst++(.agg x.cells)::cap)=some (.ret (.bool (p x)) .same)):
 C 242 [.slice (l.map PItem.cells) .free,.func g fst cap] B=some (.ret (.int .i64 (idxP p l 0)) .same):=by
 rw[C_fn rfl Tryz.func242 rfl (by kernel_rfl) (m:=17) rfl];simp only[Z3,simprocAttr,Tryz.f242,fx_242]
 generalize hb:qam PP cmp0 C lpC _=f;generalize hl0:lpC f _=r
 obtain⟨ex,s',rfl,h2⟩:=qpp (α:=Nat) B.length hl0 [4,5,9,10,11,12,13,14,15,16,17,18] (fun i=>[(8,.int .i64 i)]) (fun i=>i≤l.length) (fun i=>l.length-i) (fun i=>idxP p (l.drop i) i)
  (fun ts H r ex st=>(ex= .exit 0∧r= -1∧AtD B.length [4,5,8,9,10,11,12,13,14,15,16,17,18] ts H [] st)∨(ex= .ret∧AtD B.length [5,8,9,10,11,12,13,14,15,16,17,18] ts H [(4,.int .i64 r)] st)) 0 (wj _) ⟨by simp only[At,ats,wb,we,wh],by simp⟩ (by
   intro i j H d hi hd
   clear hl0;subst hb
   by_cases hlt:i<l.length
   ·have e1:((i:Int)<(l.length:Int)):=by omega
    have e3:(l.map PItem.cells)[i]? =some (PItem.cells l[i]):=by simp[hlt]
    have e5:=hp l[i] (wg hlt)
    simp only[Z3,simprocAttr,fx_242,ty,e1,e3,e5]
    cases hc:p l[i]
    ·simp only[Z3,simprocAttr,qav (show i≤qac by omega)]
     exact .inl ⟨i+1,_,rfl,hlt,⟨by simp only[At,ats,wb,wc],hd⟩,by simp only[];omega,by simp only[wa hlt,idxP,hc];rfl⟩
    ·simp only[Z3,simprocAttr]
     exact .inr ⟨_,_,rfl,by simp,.inr ⟨rfl,by simp only[wa hlt,idxP,hc,if_true,At,ats,wc],hd⟩⟩
   ·have e1:¬((i:Int)<(l.length:Int)):=by omega
    simp only[Z3,simprocAttr,fx_242,e1]
    exact .inr ⟨_,_,rfl,by simp,.inl ⟨rfl,by simp only[];rw[wd (by omega)];rfl,by simp only[At,ats,wb,wc],hd⟩⟩)
 rw[wi]at h2
 rcases h2 with⟨rfl,hr,h2⟩|⟨rfl,h2⟩
 ·obtain⟨j,H,d,hd,rfl⟩:=h2.elim
  clear hl0
  simp only[Z3,simprocAttr,hr,qa3 B.length _ _ d hd,qfd]
 ·obtain⟨j,H,d,hd,rfl⟩:=h2.elim
  clear hl0
  simp only[Z3,simprocAttr,qa3 B.length _ _ d hd,qfd]
theorem qzw (l:List PNode) (hl:l.length≤qac) (g:FuncId) (fst cap:List AVal) (B:qab) (p:PNode→Bool) (hp:∀x∈l,∀H,qah C (B++H) g (fst++(.agg x.cells)::cap)=some (.ret (.bool (p x)) .same)):
 C 206 [.slice (l.map PNode.cells) .free,.func g fst cap] B=some (.ret (.int .i64 (idxP p l 0)) .same):=by
 rw[C_fn rfl Tryz.func206 rfl (by kernel_rfl) (m:=17) rfl];simp only[Z3,simprocAttr,Tryz.f206,fx_206]
 generalize hb:qam PP cmp0 C lpC _=f;generalize hl0:lpC f _=r
 obtain⟨ex,s',rfl,h2⟩:=qpp (α:=Nat) B.length hl0 [4,5,9,10,11,12,13,14,15,16,17,18] (fun i=>[(8,.int .i64 i)]) (fun i=>i≤l.length) (fun i=>l.length-i) (fun i=>idxP p (l.drop i) i)
  (fun ts H r ex st=>(ex= .exit 0∧r= -1∧AtD B.length [4,5,8,9,10,11,12,13,14,15,16,17,18] ts H [] st)∨(ex= .ret∧AtD B.length [5,8,9,10,11,12,13,14,15,16,17,18] ts H [(4,.int .i64 r)] st)) 0 (wj _) ⟨by simp only[At,ats,wb,we,wh],by simp⟩ (by
   intro i j H d hi hd
   clear hl0;subst hb
   by_cases hlt:i<l.length
   ·have e1:((i:Int)<(l.length:Int)):=by omega
    have e3:(l.map PNode.cells)[i]? =some (PNode.cells l[i]):=by simp[hlt]
    have e5:=hp l[i] (wg hlt)
    simp only[Z3,simprocAttr,fx_206,ty,e1,e3,e5]
    cases hc:p l[i]
    ·simp only[Z3,simprocAttr,qav (show i≤qac by omega)]
     exact .inl ⟨i+1,_,rfl,hlt,⟨by simp only[At,ats,wb,wc],hd⟩,by simp only[];omega,by simp only[wa hlt,idxP,hc];rfl⟩
    ·simp only[Z3,simprocAttr]
     exact .inr ⟨_,_,rfl,by simp,.inr ⟨rfl,by simp only[wa hlt,idxP,hc,if_true,At,ats,wc],hd⟩⟩
   ·have e1:¬((i:Int)<(l.length:Int)):=by omega
    simp only[Z3,simprocAttr,fx_206,e1]
    exact .inr ⟨_,_,rfl,by simp,.inl ⟨rfl,by simp only[];rw[wd (by omega)];rfl,by simp only[At,ats,wb,wc],hd⟩⟩)
 rw[wi]at h2
 rcases h2 with⟨rfl,hr,h2⟩|⟨rfl,h2⟩
 ·obtain⟨j,H,d,hd,rfl⟩:=h2.elim
  clear hl0
  simp only[Z3,simprocAttr,hr,qa3 B.length _ _ d hd,qfd]
 ·obtain⟨j,H,d,hd,rfl⟩:=h2.elim
  clear hl0
  simp only[Z3,simprocAttr,qa3 B.length _ _ d hd,qfd]
theorem qx1 (l:List Str) (hl:l.length≤qac) (g:FuncId) (cs:List AVal) (hcs:qad cs=[]) (p:Str→Bool) (hp:∀x∈l,∀H,qah C (.box cs::H) g [.str x,.ptr 0 0]=some (.ret (.bool (p x)) .same)):
 C 203 [.slice (l.map (fun s=>[AVal.str s])) .free,.func g [] [.ptr 0 0]] [.box cs]=some (.ret (.bool (l.any p)) .same):=by
 have e1:∀H,qah C (.box cs::H) 241 [.slice (l.map (fun s=>[AVal.str s])) .free,.func g [] [.ptr 0 0]]=some (.ret (.int .i64 (idxP p l 0)) .same):=fun H=>
  qbd (b:=0) _ rfl rfl hcs (quw l hl g [] [.ptr 0 0] [.box cs] p hp) rfl
 rw[C_fn rfl Tryz.func203 rfl (by kernel_rfl) (m:=7) rfl];simp only[Z3,simprocAttr,Tryz.f203,fx_203,e1,qju,qa3 1 _ _ [] (by simp)]
theorem qvd (l:List PExpr) (hl:l.length≤qac) (g:FuncId) (cs:List AVal) (hcs:qad cs=[]) (p:PExpr→Bool) (hp:∀x∈l,∀H,qah C (.box cs::H) g [.agg x.cells,.ptr 0 0]=some (.ret (.bool (p x)) .same)):
 C 284 [.slice (l.map PExpr.cells) .free,.func g [] [.ptr 0 0]] [.box cs]=some (.ret (.bool (l.any p)) .same):=by
 have e1:∀H,qah C (.box cs::H) 296 [.slice (l.map PExpr.cells) .free,.func g [] [.ptr 0 0]]=some (.ret (.int .i64 (idxP p l 0)) .same):=fun H=>
  qbd (b:=0) _ rfl rfl hcs (qzu l hl g [] [.ptr 0 0] [.box cs] p hp) rfl
 rw[C_fn rfl Tryz.func284 rfl (by kernel_rfl) (m:=7) rfl];simp only[Z3,simprocAttr,Tryz.f284,fx_284,e1,qju,qa3 1 _ _ [] (by simp)]
theorem qum (l:List PState) (hl:l.length≤qac) (g:FuncId) (cs:List AVal) (hcs:qad cs=[]) (p:PState→Bool) (hp:∀x∈l,∀H,qah C (.box cs::H) g [.agg x.cells,.ptr 0 0]=some (.ret (.bool (p x)) .same)):
 C 182 [.slice (l.map PState.cells) .free,.func g [] [.ptr 0 0]] [.box cs]=some (.ret (.bool (l.any p)) .same):=by
 have e1:∀H,qah C (.box cs::H) 229 [.slice (l.map PState.cells) .free,.func g [] [.ptr 0 0]]=some (.ret (.int .i64 (idxP p l 0)) .same):=fun H=>
  qbd (b:=0) _ rfl rfl hcs (qx0 l hl g [] [.ptr 0 0] [.box cs] p hp) rfl
 rw[C_fn rfl Tryz.func182 rfl (by kernel_rfl) (m:=7) rfl];simp only[Z3,simprocAttr,Tryz.f182,fx_182,e1,qju,qa3 1 _ _ [] (by simp)]
theorem qve (l:List PItem) (hl:l.length≤qac) (g:FuncId) (cs:List AVal) (hcs:qad cs=[]) (p:PItem→Bool) (hp:∀x∈l,∀H,qah C (.box cs::H) g [.agg x.cells,.ptr 0 0]=some (.ret (.bool (p x)) .same)):
 C 207 [.slice (l.map PItem.cells) .free,.func g [] [.ptr 0 0]] [.box cs]=some (.ret (.bool (l.any p)) .same):=by
 have e1:∀H,qah C (.box cs::H) 242 [.slice (l.map PItem.cells) .free,.func g [] [.ptr 0 0]]=some (.ret (.int .i64 (idxP p l 0)) .same):=fun H=>
  qbd (b:=0) _ rfl rfl hcs (qzv l hl g [] [.ptr 0 0] [.box cs] p hp) rfl
 rw[C_fn rfl Tryz.func207 rfl (by kernel_rfl) (m:=7) rfl];simp only[Z3,simprocAttr,Tryz.f207,fx_207,e1,qju,qa3 1 _ _ [] (by simp)]
theorem qvf (l:List PNode) (hl:l.length≤qac) (g:FuncId) (cs:List AVal) (hcs:qad cs=[]) (p:PNode→Bool) (hp:∀x∈l,∀H,qah C (.box cs::H) g [.agg x.cells,.ptr 0 0]=some (.ret (.bool (p x)) .same)):
 C 140 [.slice (l.map PNode.cells) .free,.func g [] [.ptr 0 0]] [.box cs]=some (.ret (.bool (l.any p)) .same):=by
 have e1:∀H,qah C (.box cs::H) 206 [.slice (l.map PNode.cells) .free,.func g [] [.ptr 0 0]]=some (.ret (.int .i64 (idxP p l 0)) .same):=fun H=>
  qbd (b:=0) _ rfl rfl hcs (qzw l hl g [] [.ptr 0 0] [.box cs] p hp) rfl
 rw[C_fn rfl Tryz.func140 rfl (by kernel_rfl) (m:=7) rfl];simp only[Z3,simprocAttr,Tryz.f140,fx_140,e1,qju,qa3 1 _ _ [] (by simp)]
end Go.Ab
