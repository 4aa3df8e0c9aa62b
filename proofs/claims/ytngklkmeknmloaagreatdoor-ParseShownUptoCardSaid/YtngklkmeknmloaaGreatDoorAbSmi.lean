/- What a text is read as may be, and its own text is read as the same. -/
import Derived.Test.YtngklkmeknmloaaGreatDoorAbSize
import Derived.Test.YtngklkmeknmloaaGreatDoorAbOkB
import Derived.Test.YtngklkmeknmloaaGreatDoorAbShow
import Derived.Test.YtngklkmeknmloaaGreatDoorAbSameR
import Derived.Test.YtngklkmeknmloaaGreatDoorAbPsQv
import Derived.Test.YtngklkmeknmloaaGreatDoorAbPrs
import Derived.Test.YtngklkmeknmloaaGreatDoorAbFu
import Derived.Test.YtngklkmeknmloaaGreatDoorAbFu2
set_option linter.unusedSimpArgs false
set_option linter.unusedVariables false
set_option maxRecDepth 100000
set_option maxHeartbeats 4000000
open Go.Proofs
open Nat renaming le_refl→wa
open List renaming length_append→wb,length_cons→wc
namespace Go.Ab
theorem qjh {α:Type} (p:α→α→Bool) (h:∀a b,p a b=true↔a=b):∀l m,qdj p l m=true↔l=m
 |[],[]=>by simp[qdj]
 |[],_::_=>by simp[qdj]
 |_::_,[]=>by simp[qdj]
 |a::r,b::t=>by simp[qdj,h a b,qjh p h r t]
theorem PEq.same_iff (a b:PEq):a.same b=true↔a=b:=by
 cases a;cases b;simp[PEq.same,Go.Ab.same_iff]
theorem PWay.same_iff (a b:PWay):a.same b=true↔a=b:=by
 cases a;cases b;simp[PWay.same,Go.Ab.same_iff,and_comm]
theorem PState.same_iff (a b:PState):a.same b=true↔a=b:=by
 cases a;cases b;simp[PState.same,qjh _ PEq.same_iff,qjh _ PWay.same_iff,and_assoc]
theorem PItem.same_iff (a b:PItem):a.same b=true↔a=b:=by
 cases a;cases b;simp[PItem.same,PEq.same_iff,qjh _ PState.same_iff]
theorem PNode.same_iff (a b:PNode):a.same b=true↔a=b:=by
 cases a;cases b;simp[PNode.same,qjh _ PItem.same_iff,and_assoc]
theorem PEnum.same_iff (a b:PEnum):a.same b=true↔a=b:=by
 cases a;cases b;simp[PEnum.same]
theorem PProg.same_iff (a b:PProg):a.same b=true↔a=b:=by
 cases a;cases b;simp[PProg.same,qjh _ PEnum.same_iff,qjh _ PNode.same_iff]
end Go.Ab
namespace Go.Ab
open Go Go.Ab.Tab
theorem J_ge:∀ws:List Str,(∀w∈ws,w≠[])→ws.length≤(J ws).length
 |[],_=>wa _
 |[w],h=>by
  have hw:=h w (by simp)
  rw[J_one]
  cases w with
  |nil=>exact absurd rfl hw
  |cons c t=>simp
 |w::v::r,h=>by
  have:=J_ge (v::r) (fun x hx=>h x (by simp[hx]))
  rw[qyl w _ (by simp)]
  simp only[wb,wc]at this ⊢
  omega
theorem text_back {p:PProg} (gp:GoodP p) (hne:qeg p≠[]) (hT:(J (qeg p)).length≤65536):∃l,qcn (J (qeg p)) ((J (qeg p)).length+1) 0=(some l,0)∧TsOk l∧∃N ts',qdv (pE N) N N l= .ok p ts':=by
 have hok:=oks_prog gp
 have hge:=J_ge (qeg p) (fun w hw=>(qzu (hok w hw)).1)
 obtain⟨l,e,h1,h2,h3⟩:=qyy (qeg p) [] ((J (qeg p)).length+1) hne hok (by omega)
 have hl:l.length=(qeg p).length:=by
  have:=congrArg List.length h2
  simpa[toks]using this
 have h6:e.sort=6:=by have:=congrArg PTok.sort h3;exact this
 refine⟨l++[e],h1,⟨⟨l,e,rfl,h6⟩,by simp only[wb,wc,List.length_nil];omega⟩,?_⟩
 obtain⟨N,hN⟩:=prog_back gp
 have hp:=hN N N (wa _) (wa _)
 have hm:(l++[e]).map strip=toks (qeg p)++[tEnd]:=by
  rw[List.map_append,h2];simp only[List.map_cons,List.map_nil,h3];rfl
 rw[←hm]at hp
 obtain⟨ts',h4,_⟩:=(qz3 (pE_v N) N N).back hp
 exact⟨N,ts',h4⟩
end Go.Ab
namespace Go.Ab
open Go Go.Ab.Tab
theorem q5c (text:Str) (hl:text.length≤qac):(∃a b c,a≠0∧Ret D 16 [.str text] (.tuple [.agg qmy,.agg (fC a b c)]))∨
 ∃p:PProg,p.Rng∧p.bulk≤1114130∧qfr false p=0∧text.length≤65536∧(∃l k,qcn text (text.length+1) 0=(some l,k)∧TsOk l∧∃N ts',qdv (pE N) N N l= .ok p ts')∧Ret D 16 [.str text] (.tuple [.agg p.cells,.agg qhx]):=by
 by_cases hb:65536<text.length∨(qcn text (text.length+1) 0).1=none
 ·obtain⟨a,b,c,ha,hv⟩:=scanV_bad text hb
  exact .inl ⟨a,b,c,ha,qy2 text ha (q63 text hl ha hv)⟩
 have hT:text.length≤65536:=by omega
 cases hs:qcn text (text.length+1) 0 with
 |mk x k=>
  cases x with
  |none=>exact absurd (.inr (by rw[hs])) hb
  |some l=>
   obtain⟨h1,h2,h3⟩:=scan_ok hT hs
   rcases q65 l h2 (wa _)with⟨p,r,hp,hpb,hpr⟩|⟨e,r,hp,he⟩
   ·have sm:p.Small:=PProg.small_of_bulk p 1114130 (by omega) (by decide)
    by_cases hr:qfr false p=0
    ·exact .inr ⟨p,hpr,by omega,hr,hT,⟨l,k,rfl,h1,_,r,hp⟩,qud text hT hs h1 hp hr sm hpr⟩
    ·exact .inl ⟨_,0,0,hr,q3y text hT hs h1 hp hr sm hpr⟩
   ·obtain⟨b,c,hf⟩:=faultC_eq e r
    have g:=progE_p h1 hp
    rw[faultL_eq,hf]at g
    exact .inl ⟨e,b,c,he,qy2 text he (readP_p (ts':=l) text hT he hs g)⟩
theorem pshown_c (text:Str) (hl:text.length≤1048576):D 9 [.str text] []=some (.ret (.bool true) .same):=by
 have m2:qac=1099511627776:=rfl
 rcases q5c text (by omega)with⟨a,b,c,ha,g⟩|⟨p,hr,hb,hz,hT,-,g⟩
 ·unfold fC qmy at g
  have n0:(a !=0)=true:=by simpa using ha
  have z0:(((0:Nat):Int)==0)=true:=rfl
  rw[D_fn rfl Tryz.func9 rfl (by kernel_rfl) (m:=51) rfl];simp only[Z3,simprocAttr,Tryz.f9,fx_9,effs,que _,g _,n0,z0]
  skip
 ·have hs:p.Small:=PProg.small_of_bulk p 1114130 hb (by decide)
  have hTp:=progW_T p
  have a:=(print_c p hs hr (by omega)).up
  unfold qt9 at a
  rw[if_pos hz]at a
  have gp:=goodP_of hz hr (by unfold qac;omega)
  have hne:=node_ne p hz
  have hJl:=J_len (qeg p)
  have hJle:(J (qeg p)).length≤qac:=by omega
  unfold qhx at g
  have sp:∀(x0 x1:AVal),qau [x0,x1] 0 p.cells=some p.cells:=fun _ _=>qci (by rw[p.len];rfl)
  by_cases hbig:65536<(J (qeg p)).length
  ·have hd:decide ((65536:Int)<((J (qeg p)).length:Int))=true:=decide_eq_true (by omega)
   rw[D_fn rfl Tryz.func9 rfl (by kernel_rfl) (m:=51) rfl];simp only[Z3,simprocAttr,Tryz.f9,fx_9,effs,que _,g _,a _,hJle,hd,sp,p.ones,p.len,p.take,p.strip]
  ·have hd:decide ((65536:Int)<((J (qeg p)).length:Int))=false:=decide_eq_false (by omega)
   obtain⟨l,h1,h2,N,ts',h3⟩:=text_back gp hne (by omega)
   have c1:=qud _ (by omega) h1 h2 h3 hz hs hr
   have c2:=(rsame_c p p hs hs).up
   unfold qhx at c1
   rw[D_fn rfl Tryz.func9 rfl (by kernel_rfl) (m:=51) rfl];simp only[Z3,simprocAttr,Tryz.f9,fx_9,effs,que _,g _,a _,hJle,hd,c1 _,q31,sp,p.ones,p.len,p.take,p.strip,c2 _]
   rw[(PProg.same_iff p p).2 rfl]
end Go.Ab
