/- The layer's own trial run is true: out of the contracts. -/
import Derived.Test.YtngklkmeknmloaaGreatDoorAbReadT
import Derived.Test.YtngklkmeknmloaaGreatDoorAbPrs
import Derived.Test.YtngklkmeknmloaaGreatDoorAbTxt
set_option linter.unusedSimpArgs false
set_option linter.unusedVariables false
set_option maxRecDepth 100000
set_option maxHeartbeats 4000000
open Go.Proofs
open Bool renaming and_eq_true→wa
open List renaming all_eq_true→wb
namespace Go.Ab
def i64B (n:Int):Bool:=decide (-9223372036854775808≤n) && decide (n≤9223372036854775807)
theorem i64B_ok {n:Int} (h:i64B n=true):qbp n:=by
 simp only[i64B,wa,decide_eq_true_eq]at h
 unfold qbp;omega
def strB (s:Str):Bool:=decide (s.length≤1048576)
theorem qnh {s:Str} (h:strB s=true):s.length≤qac:=by
 simp only[strB,decide_eq_true_eq]at h;unfold qac;omega
def lenB {α:Type} (s:List α):Bool:=decide (s.length≤1048576)
theorem qkd {α:Type} {s:List α} (h:lenB s=true):s.length≤qac:=by
 simp only[lenB,decide_eq_true_eq]at h;unfold qac;omega
def qo3 (l:List Str):Bool:=lenB l && l.all strB
theorem qlm {l:List Str} (h:qo3 l=true):qfm l:=by
 simp only[qo3,wa,wb]at h
 exact⟨qkd h.1,fun s hs=>qnh (h.2 s hs)⟩
mutual
def PExpr.okB:PExpr→Bool
 | .mk op name n cons kids=>i64B op && i64B n && strB name && qo3 cons && lenB kids && PExpr.okBL kids
def PExpr.okBL:List PExpr→Bool
 |[]=>true
 |e::r=>e.okB && PExpr.okBL r
end
theorem q2k:∀l:List PExpr,PExpr.okBL l=l.all PExpr.okB
 |[]=>rfl
 |e::r=>by simp[PExpr.okBL,q2k r]
theorem PExpr.okB_ok (e:PExpr):e.okB=true→e.Small∧e.Rng:=by
 induction e using PExpr.induct with
 |h op name n cons ks ih=>
  intro h
  simp only[PExpr.okB,q2k,wa,wb]at h
  obtain⟨⟨⟨⟨⟨h1,h2⟩,h3⟩,h4⟩,h5⟩,h6⟩:=h
  exact⟨.mk _ _ _ _ _ (qnh h3) (qlm h4) (qkd h5) (fun k hk=>(ih k hk (h6 k hk)).1),.mk _ _ _ _ _ (i64B_ok h1) (i64B_ok h2) (fun k hk=>(ih k hk (h6 k hk)).2)⟩
def PEq.okB (q:PEq):Bool:=qo3 q.names && q.e.okB
def PWay.okB (q:PWay):Bool:=q.cond.okB && strB q.to
def PState.okB (s:PState):Bool:=strB s.name && lenB s.eqs && s.eqs.all PEq.okB && lenB s.ways && s.ways.all PWay.okB
def PItem.okB (x:PItem):Bool:=x.eq.okB && lenB x.states && x.states.all PState.okB
def PEnum.okB (x:PEnum):Bool:=strB x.name && qo3 x.cons
def PNode.okB (x:PNode):Bool:=strB x.name && qo3 x.funs && qo3 x.ins && qo3 x.outs && lenB x.items && x.items.all PItem.okB
def PProg.okB (p:PProg):Bool:=lenB p.enums && p.enums.all PEnum.okB && lenB p.nodes && p.nodes.all PNode.okB
theorem PEq.okB_ok {q:PEq} (h:q.okB=true):q.Small∧q.Rng:=by
 simp only[PEq.okB,wa]at h
 have:=q.e.okB_ok h.2
 exact⟨⟨qlm h.1,this.1⟩,this.2⟩
theorem PWay.okB_ok {q:PWay} (h:q.okB=true):q.Small∧q.Rng:=by
 simp only[PWay.okB,wa]at h
 have:=q.cond.okB_ok h.1
 exact⟨⟨this.1,qnh h.2⟩,this.2⟩
theorem PState.okB_ok {s:PState} (h:s.okB=true):s.Small∧s.Rng:=by
 simp only[PState.okB,wa,wb]at h
 obtain⟨⟨⟨⟨h1,h2⟩,h3⟩,h4⟩,h5⟩:=h
 exact⟨⟨qnh h1,qkd h2,fun y hy=>(PEq.okB_ok (h3 y hy)).1,qkd h4,fun y hy=>(PWay.okB_ok (h5 y hy)).1⟩,fun y hy=>(PEq.okB_ok (h3 y hy)).2,fun y hy=>(PWay.okB_ok (h5 y hy)).2⟩
theorem PItem.okB_ok {x:PItem} (h:x.okB=true):x.Small∧x.Rng:=by
 simp only[PItem.okB,wa,wb]at h
 obtain⟨⟨h1,h2⟩,h3⟩:=h
 exact⟨⟨(PEq.okB_ok h1).1,qkd h2,fun y hy=>(PState.okB_ok (h3 y hy)).1⟩,(PEq.okB_ok h1).2,fun y hy=>(PState.okB_ok (h3 y hy)).2⟩
theorem PEnum.okB_ok {x:PEnum} (h:x.okB=true):x.Small∧x.Rng:=by
 simp only[PEnum.okB,wa]at h
 exact⟨⟨qnh h.1,qlm h.2⟩,rfl⟩
theorem PNode.okB_ok {x:PNode} (h:x.okB=true):x.Small∧x.Rng:=by
 simp only[PNode.okB,wa,wb]at h
 obtain⟨⟨⟨⟨⟨h1,h2⟩,h3⟩,h4⟩,h5⟩,h6⟩:=h
 exact⟨⟨qnh h1,qlm h2,qlm h3,qlm h4,qkd h5,fun y hy=>(PItem.okB_ok (h6 y hy)).1⟩,fun y hy=>(PItem.okB_ok (h6 y hy)).2⟩
theorem PProg.okB_ok {p:PProg} (h:p.okB=true):p.Small∧p.Rng:=by
 simp only[PProg.okB,wa,wb]at h
 obtain⟨⟨⟨h1,h2⟩,h3⟩,h4⟩:=h
 exact⟨⟨qkd h1,fun y hy=>(PEnum.okB_ok (h2 y hy)).1,qkd h3,fun y hy=>(PNode.okB_ok (h4 y hy)).1⟩,fun y hy=>(PEnum.okB_ok (h2 y hy)).2,fun y hy=>(PNode.okB_ok (h4 y hy)).2⟩
end Go.Ab
namespace Go.Ab
open Go Go.Ab.Tab
def lvT1:Str:=[97,32,45,62,32,98,32,102,98,121,32,99,32,43,32,49]
def lvT2:Str:=[110,111,100,101,32,102,40,120,41,32,61,32,40,121,41,32,119,104,101,114,101,32,121,32,61,32,120,59,32,101,110,100]
def lvE:PExpr:=qkz (eVar [97]) (eFby (eVar [98]) (eBin [43] (eVar [99]) (eInt 1)))
def lvP:PProg:=⟨[],[⟨[102],[],[[120]],[[121]],[⟨⟨[[121]],eVar [120]⟩,[]⟩]⟩]⟩
theorem tsOk_of {l:List PTok} (h:l.getLast?.map PTok.sort=some 6) (hl:l.length≤65537):TsOk l:=by
 cases hx:l.getLast? with
 |none=>rw[hx]at h;cases h
 |some e=>
  rw[hx]at h
  obtain⟨r,hr⟩:=List.getLast?_eq_some_iff.1 hx
  exact⟨⟨r,e,hr,by simpa using h⟩,hl⟩
theorem lv_scan1:∃l k,qci lvT1 (lvT1.length+1) 0=(some l,k)∧TsOk l∧∃t,pE 20 0 1 l= .ok lvE t∧qc3 t=6:=
 ⟨_,_,rfl,tsOk_of (by rfl) (by decide),_,rfl,rfl⟩
theorem lv_scan2:∃l k,qci lvT2 (lvT2.length+1) 0=(some l,k)∧TsOk l∧∃t,qcw (pE 20) 20 20 l= .ok lvP t:=
 ⟨_,_,rfl,tsOk_of (by rfl) (by decide),_,rfl⟩
theorem q2l (n:Bool):binA PP cmp0 .eql 29 n (.agg [.int .i64 0,.int .i64 0,.int .i64 0]) (.agg [.int .i64 0,.int .i64 0,.int .i64 0])=some (.bool true):=by
 cases n<;>kernel_rfl
theorem qix:Ret D 15 [] (.bool true):=by
 obtain⟨l1,k1,s1,t1,u1,p1,h1⟩:=lv_scan1
 obtain⟨l2,k2,s2,t2,u2,p2⟩:=lv_scan2
 have c1:=pexpr_ok lvT1 (by decide) s1 t1 p1 h1
 have c2:=qtk lvT2 (by decide) s2 t2 p2 (by rfl) (PProg.okB_ok (p:=lvP) (by rfl)).1 (PProg.okB_ok (p:=lvP) (by rfl)).2
 have c3:=(show_c lvE (lvE.okB_ok (by rfl)).1 (lvE.okB_ok (by rfl)).2 (by decide)).up
 have hw:J lvE.words=[40,32,97,32,45,62,32,40,32,98,32,102,98,121,32,40,32,99,32,43,32,49,32,41,32,41,32,41]:=by rfl
 rw[hw]at c3
 have hp:lvP.cells=[.slice [] .free,.slice [PNode.cells ⟨[102],[],[[120]],[[121]],[⟨⟨[[121]],eVar [120]⟩,[]⟩]⟩] .free]:=rfl
 unfold lvT1 at c1
 unfold lvT2 at c2
 unfold qf0 at c1 c2
 rw[hp]at c2
 have he:lvE.cells=[.int .i64 10,.str [],.int .i64 0,.slice [] .free,.slice [(eVar [97]).cells,(eFby (eVar [98]) (eBin [43] (eVar [99]) (eInt 1))).cells] .free]:=rfl
 rw[he]at c1 c3
 have hn:PNode.cells ⟨[102],[],[[120]],[[121]],[⟨⟨[[121]],eVar [120]⟩,[]⟩]⟩=[.str [102],qag [],qag [[120]],qag [[121]],.slice [PItem.cells ⟨⟨[[121]],eVar [120]⟩,[]⟩] .free]:=rfl
 rw[hn]at c2
 have o1:(((1:Nat):Int)==1)=true:=rfl
 refine Ret.mk rfl rfl ?_
 rw[D_fn rfl Tryz.func15 rfl (by kernel_rfl) (m:=41) rfl];simp only[Z3,simprocAttr,Tryz.f15,fx_15,effs,c1 _,c2 _,c3 _,q2l,o1]
 skip
end Go.Ab
