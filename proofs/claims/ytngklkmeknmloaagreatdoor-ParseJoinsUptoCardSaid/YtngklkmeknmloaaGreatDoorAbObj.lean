/- Methods of one box without names in it. -/
import Derived.Test.YtngklkmeknmloaaGreatDoorAbBox
set_option linter.unusedSimpArgs false
set_option linter.unusedVariables false
set_option maxRecDepth 100000
set_option maxHeartbeats 4000000
open List renaming getD_eq_getElem?_getD→wa,getElem?_eq_none→wb,map_cons→wd,map_nil→we
open Option renaming getD_some→wc
namespace Go.Ab
theorem qed {c:Call} (hkeep:qa4 c) {H:qab} {f:FuncId} {rest:List AVal} {v:AVal} {b:Nat} {x y:List AVal} (hr:qad rest=[]) (h1:H[b]? =some (.box x)) (px:qad x=[]) (py:qad y=[])
 (g:qbi c f (.ptr 0 0::rest) [.box x] v [.box y]) (hv:refs v=[]):qnz c H f (.ptr b 0::rest) v (H.set b (.box y)):=by
 have l1:=(List.getElem?_eq_some_iff.1 h1).1
 have ha:qad (.ptr b 0::rest)=[b]:=by simp[qad,refs,hr]
 refine qjk hkeep [b] ?_ (by simp) ?_ (?_:qbi c f _ (subH H [b]) v [.box y]) hv ?_
 ·rw[ha];simp[qbv,h1,px]
 ·unfold qc2;simp[ha,h1,qdq,px]
 ·have e1:subH H [b]=[.box x]:=by
   simp only[subH,wd,we,wa,h1,wc,renB,qbs px]
  have e2:renL (fun x=>[b].idxOf x) (.ptr b 0::rest)= .ptr 0 0::rest:=by
   simp only[renL,ren,qbs hr];simp
  rw[e1,e2];exact g
 ·intro H' k
  apply List.ext_getElem?
  intro i
  by_cases e1:b=i
  ·subst e1
   rw[k.inn 0 b rfl,List.getElem?_set_self l1]
   simp[renB,qbs py]
  ·rw[List.getElem?_set_ne e1]
   by_cases hi:i<H.length
   ·exact k.out i hi (by simp[Ne.symm e1])
   ·have e3:([Blk.box y]:List Blk)[[b].length+(i-H.length)]? =none:=wb (by simp)
    have e4:H[i]? =none:=wb (by omega)
    rw[k.new i (by omega),e3,e4]
    rfl
theorem qcf {c:Call} {H:qab} {f:FuncId} {rest:List AVal} {v:AVal} {b:Nat} {x:List AVal} (hr:qad rest=[]) (h1:H[b]? =some (.box x)) (px:qad x=[])
 (g:c f (.ptr 0 0::rest) [.box x]=some (.ret v .same)) (hv:refs v=[]):qai c H f (.ptr b 0::rest)=some (.ret v .same):=by
 have ha:qad (.ptr b 0::rest)=[b]:=by simp[qad,refs,hr]
 unfold qai
 have hidx:qbv H 256 (qad (.ptr b 0::rest)) []=[b]:=by rw[ha];simp[qbv,h1,px]
 have e1:subH H [b]=[.box x]:=by
  simp only[subH,wd,we,wa,h1,wc,renB,qbs px]
 have e2:renL (fun x=>[b].idxOf x) (.ptr b 0::rest)= .ptr 0 0::rest:=by
  simp only[renL,ren,qbs hr];simp
 simp only[hidx]
 rw[if_pos (by unfold qc2;simp[ha,h1,qdq,px]),e1,e2,g]
 simp only
 rw[qfc v (by rw[hv];simp)]
 rfl
theorem qzi (n:Nat) (h:qab) (b:Nat) (cs:List AVal) (hb:h[b]? =some (.box cs)) (hp:∀v∈cs,(∃k z,v= .int k z)∨(∃s,v= .str s)∨(∃x,v= .bool x)∨(∃es,v= .slice es .free)∨(∃es,v= .slice es .full)):qih n h b:=by
 refine⟨_,hb,fun mv=> ?_⟩
 have key:∀cs:List AVal,(∀v∈cs,(∃k z,v= .int k z)∨(∃s,v= .str s)∨(∃x,v= .bool x)∨(∃es,v= .slice es .free)∨(∃es,v= .slice es .full))→qd0 n h cs mv=some (cs,mv):=by
  intro cs
  induction cs with
  |nil=>intro _;rfl
  |cons v r ih=>
   intro hv
   have ir:=ih (fun u hu=>hv u (by simp[hu]))
   rcases hv v (by simp)with⟨k,z,rfl⟩|⟨s,rfl⟩|⟨x,rfl⟩|⟨es,rfl⟩|⟨es,rfl⟩<;>(unfold qd0;simp[lowA,refs,ir])
 unfold qg5
 rw[hb]
 simp only[key cs hp]
end Go.Ab
