/- Methods of one box without names in it. -/
import Derived.Test.YtngklkmeknmloaaGreatDoorAbBox
set_option linter.unusedSimpArgs false
set_option linter.unusedVariables false
set_option maxRecDepth 100000
set_option maxHeartbeats 4000000
open List renaming getD_eq_getElem?_getD→wa,getElem?_eq_none→wb,map_cons→wd,map_nil→we
open Option renaming getD_some→wc
namespace Go.Ab
theorem qkh {c:Call} (hkeep:qan c) {H:qaa} {f:FuncId} {rest:List AVal} {v:AVal} {b:Nat} {x y:List AVal} (hr:qag rest=[]) (h1:H[b]? =some (.box x)) (px:qag x=[]) (py:qag y=[])
 (g:qgd c f (.ptr 0 0::rest) [.box x] v [.box y]) (hv:refs v=[]):GivesA c H f (.ptr b 0::rest) v (H.set b (.box y)):=by
 have l1:=(List.getElem?_eq_some_iff.1 h1).1
 have ha:qag (.ptr b 0::rest)=[b]:=by simp[qag,refs,hr]
 refine qr4 hkeep [b] ?_ (by simp) ?_ (?_:qgd c f _ (subH H [b]) v [.box y]) hv ?_
 ·rw[ha];simp[qa2,h1,px]
 ·unfold qdc;simp[ha,h1,qb8,px]
 ·have e1:subH H [b]=[.box x]:=by
   simp only[subH,wd,we,wa,h1,wc,renB,qg1 px]
  have e2:renL (fun x=>[b].idxOf x) (.ptr b 0::rest)= .ptr 0 0::rest:=by
   simp only[renL,ren,qg1 hr];simp
  rw[e1,e2];exact g
 ·intro H' k
  apply List.ext_getElem?
  intro i
  by_cases e1:b=i
  ·subst e1
   rw[k.inn 0 b rfl,List.getElem?_set_self l1]
   simp[renB,qg1 py]
  ·rw[List.getElem?_set_ne e1]
   by_cases hi:i<H.length
   ·exact k.out i hi (by simp[Ne.symm e1])
   ·have e3:([Blk.box y]:List Blk)[[b].length+(i-H.length)]? =none:=wb (by simp)
    have e4:H[i]? =none:=wb (by omega)
    rw[k.new i (by omega),e3,e4]
    rfl
theorem qi5 {c:Call} {H:qaa} {f:FuncId} {rest:List AVal} {v:AVal} {b:Nat} {x:List AVal} (hr:qag rest=[]) (h1:H[b]? =some (.box x)) (px:qag x=[])
 (g:c f (.ptr 0 0::rest) [.box x]=some (.ret v .same)) (hv:refs v=[]):qa7 c H f (.ptr b 0::rest)=some (.ret v .same):=by
 have ha:qag (.ptr b 0::rest)=[b]:=by simp[qag,refs,hr]
 unfold qa7
 have hidx:qa2 H 256 (qag (.ptr b 0::rest)) []=[b]:=by rw[ha];simp[qa2,h1,px]
 have e1:subH H [b]=[.box x]:=by
  simp only[subH,wd,we,wa,h1,wc,renB,qg1 px]
 have e2:renL (fun x=>[b].idxOf x) (.ptr b 0::rest)= .ptr 0 0::rest:=by
  simp only[renL,ren,qg1 hr];simp
 simp only[hidx]
 rw[if_pos (by unfold qdc;simp[ha,h1,qb8,px]),e1,e2,g]
 simp only
 rw[qcj v (by rw[hv];simp)]
 rfl
theorem stay_pure (n:Nat) (h:qaa) (b:Nat) (cs:List AVal) (hb:h[b]? =some (.box cs)) (hp:∀v∈cs,(∃k z,v= .int k z)∨(∃s,v= .str s)∨(∃x,v= .bool x)∨(∃es,v= .slice es .free)∨(∃es,v= .slice es .full)):Stays n h b:=by
 refine⟨_,hb,fun mv=> ?_⟩
 have key:∀cs:List AVal,(∀v∈cs,(∃k z,v= .int k z)∨(∃s,v= .str s)∨(∃x,v= .bool x)∨(∃es,v= .slice es .free)∨(∃es,v= .slice es .full))→qbk n h cs mv=some (cs,mv):=by
  intro cs
  induction cs with
  |nil=>intro _;rfl
  |cons v r ih=>
   intro hv
   have ir:=ih (fun u hu=>hv u (by simp[hu]))
   rcases hv v (by simp)with⟨k,z,rfl⟩|⟨s,rfl⟩|⟨x,rfl⟩|⟨es,rfl⟩|⟨es,rfl⟩<;>(unfold qbk;simp[lowA,refs,ir])
 unfold qgn
 rw[hb]
 simp only[key cs hp]
end Go.Ab
