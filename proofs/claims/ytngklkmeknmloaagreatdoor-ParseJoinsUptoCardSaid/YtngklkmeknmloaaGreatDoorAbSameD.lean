/- Does one of a list do? -/
import Derived.Test.YtngklkmeknmloaaGreatDoorAbSize
import Derived.Test.YtngklkmeknmloaaGreatDoorAbTypes
import Derived.Test.YtngklkmeknmloaaGreatDoorAbBox
set_option linter.unusedSimpArgs false
set_option linter.unusedVariables false
set_option maxRecDepth 100000
set_option maxHeartbeats 4000000
open Go.Proofs
open List renaming drop_eq_getElem_cons→wa,drop_left→wc,drop_eq_nil_of_le→wd,drop_length→we,getElem_mem→wf,append_nil→wg,drop_zero→wh,any_cons→wj
open Int renaming natCast_zero→wb
open Nat renaming zero_le→wi
namespace Go.Ab
open Go Go.Ab.Tab
def qdd {α:Type} (p:α→α→Bool):List α→List α→Bool
 |[],[]=>true
 |a::r,b::t=>p a b && qdd p r t
 |_,_=>false
theorem qiw {α:Type} (p:α→α→Bool):∀(l m:List α),¬l.length=m.length→qdd p l m=false
 |[],[],h=>absurd rfl h
 |[],_::_,_=>rfl
 |_::_,[],_=>rfl
 |a::r,b::t,h=>by simp only[qdd,qiw p r t (fun e=>h (by simp[e])),Bool.and_false]
theorem qi9 {α:Type} (p:α→α→Bool) (l m:List α) (i:Nat) (h:i<l.length) (h':i<m.length):qdd p (l.drop i) (m.drop i)=(p l[i] m[i] && qdd p (l.drop (i+1)) (m.drop (i+1))):=by
 rw[wa h,wa h',qdd]
def PEnum.same (a b:PEnum):Bool:=a.name==b.name && a.cons==b.cons
def PEq.same (a b:PEq):Bool:=a.names==b.names && a.e.same b.e
def PWay.same (a b:PWay):Bool:=a.to==b.to && a.cond.same b.cond
def PState.same (a b:PState):Bool:=a.name==b.name && (qdd PEq.same a.eqs b.eqs) && (qdd PWay.same a.ways b.ways)
def PItem.same (a b:PItem):Bool:=a.eq.same b.eq && (qdd PState.same a.states b.states)
def PNode.same (a b:PNode):Bool:=a.name==b.name && a.funs==b.funs && a.ins==b.ins && a.outs==b.outs && (qdd PItem.same a.items b.items)
def PProg.same (a b:PProg):Bool:=(qdd PEnum.same a.enums b.enums) && (qdd PNode.same a.nodes b.nodes)
end Go.Ab
namespace Go.Ab
open Go Go.Ab.Tab
def idxP {α:Type} (p:α→Bool):List α→Nat→Int
 |[],_=> -1
 |x::r,i=>if p x then(i:Int)else idxP p r (i+1)
theorem qjz {α:Type} (p:α→Bool):∀(l:List α) (i:Nat),decide (0≤idxP p l i)=l.any p
 |[],i=>by simp[idxP]
 |x::r,i=>by
  by_cases h:p x=true
  ·simp only[idxP,wj,h,if_true,Bool.true_or]
   exact decide_eq_true (Int.natCast_nonneg i)
  ·have h':p x=false:=by simpa using h
   simp only[idxP,wj,h',Bool.false_or]
   exact qjz p r (i+1)
theorem qu7 (l:List Str) (hl:l.length≤qac) (g:FuncId) (fst cap:List AVal) (B:qab) (p:Str→Bool) (hp:∀x∈l,∀H,qai C (B++H) g (fst++(.str x)::cap)=some (.ret (.bool (p x)) .same)):
 C 241 [.slice (l.map (fun s=>[AVal.str s])) .free,.func g fst cap] B=some (.ret (.int .i64 (idxP p l 0)) .same):=by
 rw[C_fn rfl Tryz.func241 rfl (by kernel_rfl) (m:=17) rfl];simp only[Z3,simprocAttr,Tryz.f241,fx_241]
 generalize hb:qam PP cmp0 C lpC _=f;generalize hl0:lpC f _=r
 obtain⟨ex,s',rfl,h2⟩:=qp0 (α:=Nat) B.length hl0 [4,5,9,10,11,12,13,14,15,16,17,18] (fun i=>[(8,.int .i64 i)]) (fun i=>i≤l.length) (fun i=>l.length-i) (fun i=>idxP p (l.drop i) i)
  (fun ts H r ex st=>(ex= .exit 0∧r= -1∧AtD B.length [4,5,8,9,10,11,12,13,14,15,16,17,18] ts H [] st)∨(ex= .ret∧AtD B.length [5,8,9,10,11,12,13,14,15,16,17,18] ts H [(4,.int .i64 r)] st)) 0 (wi _) ⟨by simp only[At,ats,wb,we,wg],by simp⟩ (by
   intro i j H d hi hd
   clear hl0;subst hb
   by_cases hlt:i<l.length
   ·have e1:((i:Int)<(l.length:Int)):=by omega
    have e3:(l.map (fun s=>[AVal.str s]))[i]? =some ((fun s=>[AVal.str s]) l[i]):=by simp[hlt]
    have e5:=hp l[i] (wf hlt)
    simp only[Z3,simprocAttr,fx_241,ty,e1,e3,e5]
    cases hc:p l[i]
    ·simp only[Z3,simprocAttr,qaz (show i≤qac by omega)]
     exact .inl ⟨i+1,_,rfl,hlt,⟨by simp only[At,ats,wb,wc],hd⟩,by simp only[];omega,by simp only[wa hlt,idxP,hc];rfl⟩
    ·simp only[Z3,simprocAttr]
     exact .inr ⟨_,_,rfl,by simp,.inr ⟨rfl,by simp only[wa hlt,idxP,hc,if_true,At,ats,wc],hd⟩⟩
   ·have e1:¬((i:Int)<(l.length:Int)):=by omega
    simp only[Z3,simprocAttr,fx_241,e1]
    exact .inr ⟨_,_,rfl,by simp,.inl ⟨rfl,by simp only[];rw[wd (by omega)];rfl,by simp only[At,ats,wb,wc],hd⟩⟩)
 rw[wh]at h2
 rcases h2 with⟨rfl,hr,h2⟩|⟨rfl,h2⟩
 ·obtain⟨j,H,d,hd,rfl⟩:=h2.elim
  clear hl0
  simp only[Z3,simprocAttr,hr,qa0 B.length _ _ d hd,qfd]
 ·obtain⟨j,H,d,hd,rfl⟩:=h2.elim
  clear hl0
  simp only[Z3,simprocAttr,qa0 B.length _ _ d hd,qfd]
theorem q0b (l:List PExpr) (hl:l.length≤qac) (g:FuncId) (fst cap:List AVal) (B:qab) (p:PExpr→Bool) (hp:∀x∈l,∀H,qai C (B++H) g (fst++(.agg x.cells)::cap)=some (.ret (.bool (p x)) .same)):
 C 296 [.slice (l.map PExpr.cells) .free,.func g fst cap] B=some (.ret (.int .i64 (idxP p l 0)) .same):=by
 rw[C_fn rfl Tryz.func296 rfl (by kernel_rfl) (m:=17) rfl];simp only[Z3,simprocAttr,Tryz.f296,fx_296]
 generalize hb:qam PP cmp0 C lpC _=f;generalize hl0:lpC f _=r
 obtain⟨ex,s',rfl,h2⟩:=qp0 (α:=Nat) B.length hl0 [4,5,9,10,11,12,13,14,15,16,17,18] (fun i=>[(8,.int .i64 i)]) (fun i=>i≤l.length) (fun i=>l.length-i) (fun i=>idxP p (l.drop i) i)
  (fun ts H r ex st=>(ex= .exit 0∧r= -1∧AtD B.length [4,5,8,9,10,11,12,13,14,15,16,17,18] ts H [] st)∨(ex= .ret∧AtD B.length [5,8,9,10,11,12,13,14,15,16,17,18] ts H [(4,.int .i64 r)] st)) 0 (wi _) ⟨by simp only[At,ats,wb,we,wg],by simp⟩ (by
   intro i j H d hi hd
   clear hl0;subst hb
   by_cases hlt:i<l.length
   ·have e1:((i:Int)<(l.length:Int)):=by omega
    have e3:(l.map PExpr.cells)[i]? =some (PExpr.cells l[i]):=by simp[hlt]
    have e5:=hp l[i] (wf hlt)
    simp only[Z3,simprocAttr,fx_296,ty,e1,e3,e5]
    cases hc:p l[i]
    ·simp only[Z3,simprocAttr,qaz (show i≤qac by omega)]
     exact .inl ⟨i+1,_,rfl,hlt,⟨by simp only[At,ats,wb,wc],hd⟩,by simp only[];omega,by simp only[wa hlt,idxP,hc];rfl⟩
    ·simp only[Z3,simprocAttr]
     exact .inr ⟨_,_,rfl,by simp,.inr ⟨rfl,by simp only[wa hlt,idxP,hc,if_true,At,ats,wc],hd⟩⟩
   ·have e1:¬((i:Int)<(l.length:Int)):=by omega
    simp only[Z3,simprocAttr,fx_296,e1]
    exact .inr ⟨_,_,rfl,by simp,.inl ⟨rfl,by simp only[];rw[wd (by omega)];rfl,by simp only[At,ats,wb,wc],hd⟩⟩)
 rw[wh]at h2
 rcases h2 with⟨rfl,hr,h2⟩|⟨rfl,h2⟩
 ·obtain⟨j,H,d,hd,rfl⟩:=h2.elim
  clear hl0
  simp only[Z3,simprocAttr,hr,qa0 B.length _ _ d hd,qfd]
 ·obtain⟨j,H,d,hd,rfl⟩:=h2.elim
  clear hl0
  simp only[Z3,simprocAttr,qa0 B.length _ _ d hd,qfd]
theorem qyk (l:List PState) (hl:l.length≤qac) (g:FuncId) (fst cap:List AVal) (B:qab) (p:PState→Bool) (hp:∀x∈l,∀H,qai C (B++H) g (fst++(.agg x.cells)::cap)=some (.ret (.bool (p x)) .same)):
 C 229 [.slice (l.map PState.cells) .free,.func g fst cap] B=some (.ret (.int .i64 (idxP p l 0)) .same):=by
 rw[C_fn rfl Tryz.func229 rfl (by kernel_rfl) (m:=17) rfl];simp only[Z3,simprocAttr,Tryz.f229,fx_229]
 generalize hb:qam PP cmp0 C lpC _=f;generalize hl0:lpC f _=r
 obtain⟨ex,s',rfl,h2⟩:=qp0 (α:=Nat) B.length hl0 [4,5,9,10,11,12,13,14,15,16,17,18] (fun i=>[(8,.int .i64 i)]) (fun i=>i≤l.length) (fun i=>l.length-i) (fun i=>idxP p (l.drop i) i)
  (fun ts H r ex st=>(ex= .exit 0∧r= -1∧AtD B.length [4,5,8,9,10,11,12,13,14,15,16,17,18] ts H [] st)∨(ex= .ret∧AtD B.length [5,8,9,10,11,12,13,14,15,16,17,18] ts H [(4,.int .i64 r)] st)) 0 (wi _) ⟨by simp only[At,ats,wb,we,wg],by simp⟩ (by
   intro i j H d hi hd
   clear hl0;subst hb
   by_cases hlt:i<l.length
   ·have e1:((i:Int)<(l.length:Int)):=by omega
    have e3:(l.map PState.cells)[i]? =some (PState.cells l[i]):=by simp[hlt]
    have e5:=hp l[i] (wf hlt)
    simp only[Z3,simprocAttr,fx_229,ty,e1,e3,e5]
    cases hc:p l[i]
    ·simp only[Z3,simprocAttr,qaz (show i≤qac by omega)]
     exact .inl ⟨i+1,_,rfl,hlt,⟨by simp only[At,ats,wb,wc],hd⟩,by simp only[];omega,by simp only[wa hlt,idxP,hc];rfl⟩
    ·simp only[Z3,simprocAttr]
     exact .inr ⟨_,_,rfl,by simp,.inr ⟨rfl,by simp only[wa hlt,idxP,hc,if_true,At,ats,wc],hd⟩⟩
   ·have e1:¬((i:Int)<(l.length:Int)):=by omega
    simp only[Z3,simprocAttr,fx_229,e1]
    exact .inr ⟨_,_,rfl,by simp,.inl ⟨rfl,by simp only[];rw[wd (by omega)];rfl,by simp only[At,ats,wb,wc],hd⟩⟩)
 rw[wh]at h2
 rcases h2 with⟨rfl,hr,h2⟩|⟨rfl,h2⟩
 ·obtain⟨j,H,d,hd,rfl⟩:=h2.elim
  clear hl0
  simp only[Z3,simprocAttr,hr,qa0 B.length _ _ d hd,qfd]
 ·obtain⟨j,H,d,hd,rfl⟩:=h2.elim
  clear hl0
  simp only[Z3,simprocAttr,qa0 B.length _ _ d hd,qfd]
theorem q0c (l:List PItem) (hl:l.length≤qac) (g:FuncId) (fst cap:List AVal) (B:qab) (p:PItem→Bool) (hp:∀x∈l,∀H,qai C (B++H) g (fst++(.agg x.cells)::cap)=some (.ret (.bool (p x)) .same)):
 C 242 [.slice (l.map PItem.cells) .free,.func g fst cap] B=some (.ret (.int .i64 (idxP p l 0)) .same):=by
 rw[C_fn rfl Tryz.func242 rfl (by kernel_rfl) (m:=17) rfl];simp only[Z3,simprocAttr,Tryz.f242,fx_242]
 generalize hb:qam PP cmp0 C lpC _=f;generalize hl0:lpC f _=r
 obtain⟨ex,s',rfl,h2⟩:=qp0 (α:=Nat) B.length hl0 [4,5,9,10,11,12,13,14,15,16,17,18] (fun i=>[(8,.int .i64 i)]) (fun i=>i≤l.length) (fun i=>l.length-i) (fun i=>idxP p (l.drop i) i)
  (fun ts H r ex st=>(ex= .exit 0∧r= -1∧AtD B.length [4,5,8,9,10,11,12,13,14,15,16,17,18] ts H [] st)∨(ex= .ret∧AtD B.length [5,8,9,10,11,12,13,14,15,16,17,18] ts H [(4,.int .i64 r)] st)) 0 (wi _) ⟨by simp only[At,ats,wb,we,wg],by simp⟩ (by
   intro i j H d hi hd
   clear hl0;subst hb
   by_cases hlt:i<l.length
   ·have e1:((i:Int)<(l.length:Int)):=by omega
    have e3:(l.map PItem.cells)[i]? =some (PItem.cells l[i]):=by simp[hlt]
    have e5:=hp l[i] (wf hlt)
    simp only[Z3,simprocAttr,fx_242,ty,e1,e3,e5]
    cases hc:p l[i]
    ·simp only[Z3,simprocAttr,qaz (show i≤qac by omega)]
     exact .inl ⟨i+1,_,rfl,hlt,⟨by simp only[At,ats,wb,wc],hd⟩,by simp only[];omega,by simp only[wa hlt,idxP,hc];rfl⟩
    ·simp only[Z3,simprocAttr]
     exact .inr ⟨_,_,rfl,by simp,.inr ⟨rfl,by simp only[wa hlt,idxP,hc,if_true,At,ats,wc],hd⟩⟩
   ·have e1:¬((i:Int)<(l.length:Int)):=by omega
    simp only[Z3,simprocAttr,fx_242,e1]
    exact .inr ⟨_,_,rfl,by simp,.inl ⟨rfl,by simp only[];rw[wd (by omega)];rfl,by simp only[At,ats,wb,wc],hd⟩⟩)
 rw[wh]at h2
 rcases h2 with⟨rfl,hr,h2⟩|⟨rfl,h2⟩
 ·obtain⟨j,H,d,hd,rfl⟩:=h2.elim
  clear hl0
  simp only[Z3,simprocAttr,hr,qa0 B.length _ _ d hd,qfd]
 ·obtain⟨j,H,d,hd,rfl⟩:=h2.elim
  clear hl0
  simp only[Z3,simprocAttr,qa0 B.length _ _ d hd,qfd]
theorem q0d (l:List PNode) (hl:l.length≤qac) (g:FuncId) (fst cap:List AVal) (B:qab) (p:PNode→Bool) (hp:∀x∈l,∀H,qai C (B++H) g (fst++(.agg x.cells)::cap)=some (.ret (.bool (p x)) .same)):
 C 206 [.slice (l.map PNode.cells) .free,.func g fst cap] B=some (.ret (.int .i64 (idxP p l 0)) .same):=by
 rw[C_fn rfl Tryz.func206 rfl (by kernel_rfl) (m:=17) rfl];simp only[Z3,simprocAttr,Tryz.f206,fx_206]
 generalize hb:qam PP cmp0 C lpC _=f;generalize hl0:lpC f _=r
 obtain⟨ex,s',rfl,h2⟩:=qp0 (α:=Nat) B.length hl0 [4,5,9,10,11,12,13,14,15,16,17,18] (fun i=>[(8,.int .i64 i)]) (fun i=>i≤l.length) (fun i=>l.length-i) (fun i=>idxP p (l.drop i) i)
  (fun ts H r ex st=>(ex= .exit 0∧r= -1∧AtD B.length [4,5,8,9,10,11,12,13,14,15,16,17,18] ts H [] st)∨(ex= .ret∧AtD B.length [5,8,9,10,11,12,13,14,15,16,17,18] ts H [(4,.int .i64 r)] st)) 0 (wi _) ⟨by simp only[At,ats,wb,we,wg],by simp⟩ (by
   intro i j H d hi hd
   clear hl0;subst hb
   by_cases hlt:i<l.length
   ·have e1:((i:Int)<(l.length:Int)):=by omega
    have e3:(l.map PNode.cells)[i]? =some (PNode.cells l[i]):=by simp[hlt]
    have e5:=hp l[i] (wf hlt)
    simp only[Z3,simprocAttr,fx_206,ty,e1,e3,e5]
    cases hc:p l[i]
    ·simp only[Z3,simprocAttr,qaz (show i≤qac by omega)]
     exact .inl ⟨i+1,_,rfl,hlt,⟨by simp only[At,ats,wb,wc],hd⟩,by simp only[];omega,by simp only[wa hlt,idxP,hc];rfl⟩
    ·simp only[Z3,simprocAttr]
     exact .inr ⟨_,_,rfl,by simp,.inr ⟨rfl,by simp only[wa hlt,idxP,hc,if_true,At,ats,wc],hd⟩⟩
   ·have e1:¬((i:Int)<(l.length:Int)):=by omega
    simp only[Z3,simprocAttr,fx_206,e1]
    exact .inr ⟨_,_,rfl,by simp,.inl ⟨rfl,by simp only[];rw[wd (by omega)];rfl,by simp only[At,ats,wb,wc],hd⟩⟩)
 rw[wh]at h2
 rcases h2 with⟨rfl,hr,h2⟩|⟨rfl,h2⟩
 ·obtain⟨j,H,d,hd,rfl⟩:=h2.elim
  clear hl0
  simp only[Z3,simprocAttr,hr,qa0 B.length _ _ d hd,qfd]
 ·obtain⟨j,H,d,hd,rfl⟩:=h2.elim
  clear hl0
  simp only[Z3,simprocAttr,qa0 B.length _ _ d hd,qfd]
theorem qyl (l:List Str) (hl:l.length≤qac) (g:FuncId) (cs:List AVal) (hcs:qad cs=[]) (p:Str→Bool) (hp:∀x∈l,∀H,qai C (.box cs::H) g [.str x,.ptr 0 0]=some (.ret (.bool (p x)) .same)):
 C 203 [.slice (l.map (fun s=>[AVal.str s])) .free,.func g [] [.ptr 0 0]] [.box cs]=some (.ret (.bool (l.any p)) .same):=by
 have e1:∀H,qai C (.box cs::H) 241 [.slice (l.map (fun s=>[AVal.str s])) .free,.func g [] [.ptr 0 0]]=some (.ret (.int .i64 (idxP p l 0)) .same):=fun H=>
  qbd (b:=0) _ rfl rfl hcs (qu7 l hl g [] [.ptr 0 0] [.box cs] p hp) rfl
 rw[C_fn rfl Tryz.func203 rfl (by kernel_rfl) (m:=7) rfl];simp only[Z3,simprocAttr,Tryz.f203,fx_203,e1,qjz,qa0 1 _ _ [] (by simp)]
theorem qvv (l:List PExpr) (hl:l.length≤qac) (g:FuncId) (cs:List AVal) (hcs:qad cs=[]) (p:PExpr→Bool) (hp:∀x∈l,∀H,qai C (.box cs::H) g [.agg x.cells,.ptr 0 0]=some (.ret (.bool (p x)) .same)):
 C 284 [.slice (l.map PExpr.cells) .free,.func g [] [.ptr 0 0]] [.box cs]=some (.ret (.bool (l.any p)) .same):=by
 have e1:∀H,qai C (.box cs::H) 296 [.slice (l.map PExpr.cells) .free,.func g [] [.ptr 0 0]]=some (.ret (.int .i64 (idxP p l 0)) .same):=fun H=>
  qbd (b:=0) _ rfl rfl hcs (q0b l hl g [] [.ptr 0 0] [.box cs] p hp) rfl
 rw[C_fn rfl Tryz.func284 rfl (by kernel_rfl) (m:=7) rfl];simp only[Z3,simprocAttr,Tryz.f284,fx_284,e1,qjz,qa0 1 _ _ [] (by simp)]
theorem quy (l:List PState) (hl:l.length≤qac) (g:FuncId) (cs:List AVal) (hcs:qad cs=[]) (p:PState→Bool) (hp:∀x∈l,∀H,qai C (.box cs::H) g [.agg x.cells,.ptr 0 0]=some (.ret (.bool (p x)) .same)):
 C 182 [.slice (l.map PState.cells) .free,.func g [] [.ptr 0 0]] [.box cs]=some (.ret (.bool (l.any p)) .same):=by
 have e1:∀H,qai C (.box cs::H) 229 [.slice (l.map PState.cells) .free,.func g [] [.ptr 0 0]]=some (.ret (.int .i64 (idxP p l 0)) .same):=fun H=>
  qbd (b:=0) _ rfl rfl hcs (qyk l hl g [] [.ptr 0 0] [.box cs] p hp) rfl
 rw[C_fn rfl Tryz.func182 rfl (by kernel_rfl) (m:=7) rfl];simp only[Z3,simprocAttr,Tryz.f182,fx_182,e1,qjz,qa0 1 _ _ [] (by simp)]
theorem qvw (l:List PItem) (hl:l.length≤qac) (g:FuncId) (cs:List AVal) (hcs:qad cs=[]) (p:PItem→Bool) (hp:∀x∈l,∀H,qai C (.box cs::H) g [.agg x.cells,.ptr 0 0]=some (.ret (.bool (p x)) .same)):
 C 207 [.slice (l.map PItem.cells) .free,.func g [] [.ptr 0 0]] [.box cs]=some (.ret (.bool (l.any p)) .same):=by
 have e1:∀H,qai C (.box cs::H) 242 [.slice (l.map PItem.cells) .free,.func g [] [.ptr 0 0]]=some (.ret (.int .i64 (idxP p l 0)) .same):=fun H=>
  qbd (b:=0) _ rfl rfl hcs (q0c l hl g [] [.ptr 0 0] [.box cs] p hp) rfl
 rw[C_fn rfl Tryz.func207 rfl (by kernel_rfl) (m:=7) rfl];simp only[Z3,simprocAttr,Tryz.f207,fx_207,e1,qjz,qa0 1 _ _ [] (by simp)]
theorem qvx (l:List PNode) (hl:l.length≤qac) (g:FuncId) (cs:List AVal) (hcs:qad cs=[]) (p:PNode→Bool) (hp:∀x∈l,∀H,qai C (.box cs::H) g [.agg x.cells,.ptr 0 0]=some (.ret (.bool (p x)) .same)):
 C 140 [.slice (l.map PNode.cells) .free,.func g [] [.ptr 0 0]] [.box cs]=some (.ret (.bool (l.any p)) .same):=by
 have e1:∀H,qai C (.box cs::H) 206 [.slice (l.map PNode.cells) .free,.func g [] [.ptr 0 0]]=some (.ret (.int .i64 (idxP p l 0)) .same):=fun H=>
  qbd (b:=0) _ rfl rfl hcs (q0d l hl g [] [.ptr 0 0] [.box cs] p hp) rfl
 rw[C_fn rfl Tryz.func140 rfl (by kernel_rfl) (m:=7) rfl];simp only[Z3,simprocAttr,Tryz.f140,fx_140,e1,qjz,qa0 1 _ _ [] (by simp)]
end Go.Ab
