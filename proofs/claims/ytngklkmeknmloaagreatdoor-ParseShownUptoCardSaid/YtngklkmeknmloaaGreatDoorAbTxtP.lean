/- How long a program's text may be. -/
import Derived.Test.YtngklkmeknmloaaGreatDoorAbShow
set_option linter.unusedSimpArgs false
set_option linter.unusedVariables false
set_option maxRecDepth 100000
set_option maxHeartbeats 4000000
open List renaming length_cons→wa,length_nil→wb
namespace Go.Ab
open Go Go.Ab.Tab
theorem qq4 {X:Type} (f:X→List Str) (b:X→Nat) (h:∀x,T (f x)≤60*b x) (l:List X):T (l.flatMap f)≤60*qby b l:=by
 induction l with
 |nil=>simp[T,qby]
 |cons x r ih=>
  have:=h x
  simp only[List.flatMap_cons,qig,qby]
  omega
theorem qw5 (l:List Str) (c:UInt8):T (qcq l [c])≤3*qgx l:=by
 have h:=listW_T l [c]
 have h2:=q0o l
 simp only[wa,wb]at h
 omega
theorem qw6 (l:List Str):T (qd1 l)≤3*qgx l+4:=by
 have:=qw5 l 44
 simp only[qd1,qig,T,wa,wb]
 omega
theorem headW_T (l:List Str):T (qij l)≤3*qgx l+4:=by
 unfold qij
 split
 ·simp only[T,qgx,qby];omega
 ·exact qw6 l
theorem eqW_T (q:PEq):T (eqW q)≤60*q.bulk:=by
 have h1:=headW_T q.names
 have h2:=qzg q.e
 unfold eqW PEq.bulk
 unfold qgx at h1
 simp only[qig,T,wa,wb]
 omega
theorem wayW_T (w:PWay):T (wayW w)≤60*w.bulk:=by
 have h2:=qzg w.cond
 unfold wayW PWay.bulk
 simp only[qig,T,wa,wb]
 omega
theorem stateW_T (s:PState):T (qdd s)≤60*s.bulk:=by
 have h1:=qq4 eqW PEq.bulk eqW_T s.eqs
 have h2:=qq4 wayW PWay.bulk wayW_T s.ways
 unfold qdd PState.bulk
 simp only[qig,T,wa,wb]
 omega
theorem itemW_T (x:PItem):T (qet x)≤60*x.bulk:=by
 have h1:=qq4 qdd PState.bulk stateW_T x.states
 have h2:=eqW_T x.eq
 unfold qet PItem.bulk
 split
 ·omega
 ·simp only[qig,T,wa,wb]
  omega
theorem enumW_T (t:PEnum):T (qge t)≤60*t.bulk:=by
 have h1:=qw5 t.cons 124
 unfold qge PEnum.bulk
 unfold qgx at h1
 simp only[qig,T,wa,wb]
 omega
theorem brW_T (l:List Str):T (brW l)≤3*qgx l+4:=by
 have:=qw5 l 44
 unfold brW
 split
 ·simp[T]
 ·simp only[qig,T,wa,wb];omega
theorem nodeW_T (n:PNode):T (qf5 n)≤60*n.bulk:=by
 have h1:=qq4 qet PItem.bulk itemW_T n.items
 have h2:=brW_T n.funs
 have h3:=qw6 n.ins
 have h4:=qw6 n.outs
 unfold qf5 PNode.bulk
 unfold qgx at h2 h3 h4
 simp only[qig,T,wa,wb]
 omega
theorem progW_T (p:PProg):T (qeg p)≤60*p.bulk:=by
 have h1:=qq4 qge PEnum.bulk enumW_T p.enums
 have h2:=qq4 qf5 PNode.bulk nodeW_T p.nodes
 unfold qeg PProg.bulk
 simp only[qig]
 omega
end Go.Ab
