/- The parser: lists of expressions; calls. -/
import Derived.Test.YtngklkmeknmloaaGreatDoorAbEff
import Derived.Test.YtngklkmeknmloaaGreatDoorAbEffB
import Derived.Test.YtngklkmeknmloaaGreatDoorAbPSpec
import Derived.Test.YtngklkmeknmloaaGreatDoorAbBox
import Derived.Test.YtngklkmeknmloaaGreatDoorAbTxt
set_option linter.unusedSimpArgs false
set_option linter.unusedVariables false
set_option maxRecDepth 100000
set_option maxHeartbeats 4000000
open Go.Proofs
open List renaming length_cons→wa,getElem?_eq_some_iff→wc,getElem?_set_self→wd,getElem?_cons_succ→we,getElem?_cons_zero→wg,append_assoc→wh,cons_append→wi,length_nil→wj,nil_append→wk,getElem?_eq_none→wm,getElem?_set_ne→wu,map_cons→wz,getD_eq_getElem?_getD→w6,mem_map→w7,length_append→w8,ext_getElem?→w9,not_mem_nil→wda,drop_zero→wea,tail_cons→wfa,mem_cons→wga,map_nil→wha
open Nat renaming lt_one_iff→wb
open Bool renaming not_false→wo,eq_false_iff→wq,and_true→wt,or_true→wv,false_eq_true→ww,and_eq_true→wba
open Option renaming getD_some→waa
open Int renaming natCast_zero→wca
namespace Go.Ab
theorem qd4 {c:Call} (hkeep:qa7 c) {H:qab} {f:FuncId} {rest:List AVal} {v:AVal} {b:Nat} {x y:List AVal} (hr:qad rest=[]) (h1:H[b]? =some (.box x)) (px:qad x=[]) (py:qad y=[])
 (g:qbk c f (.ptr 0 0::rest) [.box x] v [.box y]) (hv:refs v=[]):qnd c H f (.ptr b 0::rest) v (H.set b (.box y)):=by
 have l1:=(wc.1 h1).1
 have ha:qad (.ptr b 0::rest)=[b]:=by simp[qad,refs,hr]
 refine qjc hkeep [b] ?_ (by simp) ?_ (?_:qbk c f _ (subH H [b]) v [.box y]) hv ?_
 ·rw[ha];simp[qbq,h1,px]
 ·unfold qcz;simp[ha,h1,qdj,px]
 ·have e1:subH H [b]=[.box x]:=by
   simp only[subH,wz,wha,w6,h1,waa,renB,qbo px]
  have e2:renL (fun x=>[b].idxOf x) (.ptr b 0::rest)= .ptr 0 0::rest:=by
   simp only[renL,ren,qbo hr];simp
  rw[e1,e2];exact g
 ·intro H' k
  apply w9
  intro i
  by_cases e1:b=i
  ·subst e1
   rw[k.inn 0 b rfl,wd l1]
   simp[renB,qbo py]
  ·rw[wu e1]
   by_cases hi:i<H.length
   ·exact k.out i hi (by simp[Ne.symm e1])
   ·have e3:([Blk.box y]:List Blk)[[b].length+(i-H.length)]? =none:=wm (by simp)
    have e4:H[i]? =none:=wm (by omega)
    rw[k.new i (by omega),e3,e4]
    rfl
theorem qc7 {c:Call} {H:qab} {f:FuncId} {rest:List AVal} {v:AVal} {b:Nat} {x:List AVal} (hr:qad rest=[]) (h1:H[b]? =some (.box x)) (px:qad x=[])
 (g:c f (.ptr 0 0::rest) [.box x]=some (.ret v .same)) (hv:refs v=[]):qah c H f (.ptr b 0::rest)=some (.ret v .same):=by
 have ha:qad (.ptr b 0::rest)=[b]:=by simp[qad,refs,hr]
 unfold qah
 have hidx:qbq H 256 (qad (.ptr b 0::rest)) []=[b]:=by rw[ha];simp[qbq,h1,px]
 have e1:subH H [b]=[.box x]:=by
  simp only[subH,wz,wha,w6,h1,waa,renB,qbo px]
 have e2:renL (fun x=>[b].idxOf x) (.ptr b 0::rest)= .ptr 0 0::rest:=by
  simp only[renL,ren,qbo hr];simp
 simp only[hidx]
 rw[if_pos (by unfold qcz;simp[ha,h1,qdj,px]),e1,e2,g]
 simp only
 rw[qfu v (by rw[hv];simp)]
 rfl
theorem qy8 (n:Nat) (h:qab) (b:Nat) (cs:List AVal) (hb:h[b]? =some (.box cs)) (hp:∀v∈cs,(∃k z,v= .int k z)∨(∃s,v= .str s)∨(∃x,v= .bool x)∨(∃es,v= .slice es .free)∨(∃es,v= .slice es .full)):qib n h b:=by
 refine⟨_,hb,fun mv=> ?_⟩
 have key:∀cs:List AVal,(∀v∈cs,(∃k z,v= .int k z)∨(∃s,v= .str s)∨(∃x,v= .bool x)∨(∃es,v= .slice es .free)∨(∃es,v= .slice es .full))→qdv n h cs mv=some (cs,mv):=by
  intro cs
  induction cs with
  |nil=>intro _;rfl
  |cons v r ih=>
   intro hv
   have ir:=ih (fun u hu=>hv u (by simp[hu]))
   rcases hv v (by simp)with⟨k,z,rfl⟩|⟨s,rfl⟩|⟨x,rfl⟩|⟨es,rfl⟩|⟨es,rfl⟩<;>(unfold qdv;simp[lowA,refs,ir])
 unfold qg0
 rw[hb]
 simp only[key cs hp]
end Go.Ab
namespace Go.Ab
open Go Go.Ab.Tab
def pbox (ts:List PTok) (d:Nat):List AVal:=[.slice (ts.map PTok.cells) .free,.int .i64 d]
theorem qaa (ts:List PTok) (d:Nat):qad (pbox ts d)=[]:=by simp[pbox,qad,refs]
structure TsOk (ts:List PTok):Prop where
 fin:∃l e,ts=l++[e]∧e.sort=6
 le:ts.length≤65537
theorem TsOk.ne {ts:List PTok} (h:TsOk ts):∃t r,ts=t::r:=by
 obtain⟨l,e,h,_⟩:=h.fin
 cases ts with
 |nil=>simp at h
 |cons t r=>exact⟨t,r,rfl⟩
theorem TsOk.tail {t:PTok} {r:List PTok} (h:TsOk (t::r)) (hs:t.sort≠6):TsOk r:=by
 obtain⟨l,e,h1,h2⟩:=h.fin
 cases l with
 |nil=>simp at h1;obtain⟨rfl,rfl⟩:=h1;exact(hs h2).elim
 |cons x l=>simp at h1;obtain⟨rfl,rfl⟩:=h1;exact⟨⟨l,e,rfl,h2⟩,by have:=h.le;simp only[wa]at this;omega⟩
theorem TsOk.hasS {s:Str} {ts:List PTok} (h:TsOk ts) (hs:hasS s ts=true):∃t r,ts=t::r∧TsOk r∧t.text=s∧(t.sort=4∨t.sort=5):=by
 obtain⟨t,r,rfl⟩:=h.ne
 simp only[Go.Ab.hasS,qn7,wba,Bool.or_eq_true,beq_iff_eq]at hs
 exact⟨t,r,rfl,h.tail (by rcases hs.1 with h|h<;>omega),hs.2,hs.1⟩
theorem qem (n:Nat) (H:qab) (ts:List PTok) (d:Nat) (b:Nat) (hb:H[b]? =some (.box (pbox ts d))):qib n H b:=
 qy8 n H b _ hb (by intro v hv;simp[pbox]at hv;rcases hv with rfl|rfl<;>simp)
theorem qdo {n:Nat} {v v':AVal} {h:qab} {d:List Nat} (hd:∀x∈d,n≤x) (hr:refs (strip3 v)=[]) (hv:strip3 v=v'):some (CR.ret (qbf n v h d).1 (qbf n v h d).2)=some (CR.ret v' .same):=by
 rw[qa3 n v h d hd hr,hv]
theorem next_c (t:PTok) (r:List PTok) (d:Nat):C 51 [.ptr 0 0] [.box (pbox (t::r) d)]=some (.ret (.agg t.cells) .same):=by
 have hc:t.cells=[.int .i64 t.sort,.str t.text,.int .i64 t.n,.int .i64 t.line,.int .i64 t.col]:=rfl
 rw[hc]
 rw[C_fn rfl Tryz.func51 rfl (by kernel_rfl) (m:=8) rfl];simp only[Z3,simprocAttr,Tryz.f51,fx_51,pbox,hc,wz]
 rw[qa3 1 _ _ _ (by simp) rfl];rfl
theorem qeb (t:PTok) (r:List PTok) (d:Nat) (H:qab):qah C (.box (pbox (t::r) d)::H) 51 [.ptr 0 0]=some (.ret (.agg [.int .i64 t.sort,.str t.text,.int .i64 t.n,.int .i64 t.line,.int .i64 t.col]) .same):=
 qc7 (rest:=[]) rfl rfl (qaa _ _) (next_c t r d) rfl
theorem psign_c (t:PTok) (r:List PTok) (d:Nat):C 130 [.ptr 0 0] [.box (pbox (t::r) d)]=some (.ret (.str (qap (t::r))) .same):=by
 cases h4:(t.sort==4)
 ·cases h5:(t.sort==5)
  ·have e:qap (t::r)=[]:=by simp[qap,h4,h5]
   rw[e]
   rw[C_fn rfl Tryz.func130 rfl (by kernel_rfl) (m:=15) rfl];simp only[Z3,simprocAttr,Tryz.f130,fx_130,qeb,h4,h5]
   exact qdo (by simp[Eff.dirt]) rfl rfl
  ·have e:qap (t::r)=t.text:=by simp[qap,h4,h5]
   rw[e]
   rw[C_fn rfl Tryz.func130 rfl (by kernel_rfl) (m:=15) rfl];simp only[Z3,simprocAttr,Tryz.f130,fx_130,qeb,h4,h5]
   exact qdo (by simp[Eff.dirt]) rfl rfl
 ·have e:qap (t::r)=t.text:=by simp[qap,h4]
  rw[e]
  rw[C_fn rfl Tryz.func130 rfl (by kernel_rfl) (m:=15) rfl];simp only[Z3,simprocAttr,Tryz.f130,fx_130,qeb,h4]
  exact qdo (by simp[Eff.dirt]) rfl rfl
theorem qb7 (t:PTok) (r:List PTok) (d:Nat) (H:qab):qah C (.box (pbox (t::r) d)::H) 130 [.ptr 0 0]=some (.ret (.str (qap (t::r))) .same):=
 qc7 (rest:=[]) rfl rfl (qaa _ _) (psign_c t r d) rfl
theorem slice_one (t:PTok) (r:List PTok):qic PP 77 (.slice (t.cells::r.map PTok.cells) .free) (some (.int .i64 1)) none none=some (.slice (r.map PTok.cells) .free):=by
 have h1:PP.underlying 77=some (.slice 84):=by kernel_rfl
 have h2:qao PP 84=some 5:=by kernel_rfl
 unfold qic
 simp only[h1,h2]
 have hb:qhi (.int .i64 1) (t.cells::r.map PTok.cells).length=some 1:=by
  simp[qhi];omega
 rw[hb]
 have h3:qfa 5 (t.cells::r.map PTok.cells)=true:=rfl
 simp only[h3,if_true,List.drop_succ_cons,wea,wa,Nat.add_sub_cancel]
 congr 1
 have:(r.map PTok.cells).take (r.map PTok.cells).length=r.map PTok.cells:=List.take_length
 rw[this]
 congr 1
 simp[qot]
theorem step_c (t:PTok) (r:List PTok) (d:Nat):qbk C 131 [.ptr 0 0] [.box (pbox (t::r) d)] (.tuple []) [.box (pbox r d)]:=by
 refine qa9 rfl Tryz.func131 rfl (by kernel_rfl) (m:=9) rfl ?_;simp only[Z3,simprocAttr,Tryz.f131,fx_131,pbox,wz,slice_one]
 exact qcv (.inr rfl) rfl rfl rfl (fun b hb=>by
  obtain rfl:b=0:=wb.1 hb
  exact qem _ _ r d _ rfl) rfl
theorem met {f:FuncId} {rest:List AVal} {x y:List AVal} {v:AVal} (g:qbk C f (.ptr 0 0::rest) [.box x] v [.box y]) (hr:qad rest=[]) (px:qad x=[]) (py:qad y=[]) (hv:refs v=[]):
 ∃E:qab→Eff,(∀H,qah C (.box x::H) f (.ptr 0 0::rest)=some (.ret v (E H)))∧∀H,(E H).of (.box x::H)= .box y::H:=by
 have h:∀H,∃E:Eff,qah C (.box x::H) f (.ptr 0 0::rest)=some (.ret v E)∧E.of (.box x::H)= .box y::H:=fun H=>qd4 qay (b:=0) (H:= .box x::H) hr rfl px py g hv
 exact⟨fun H=>(h H).choose,fun H=>(h H).choose_spec.1,fun H=>(h H).choose_spec.2⟩
theorem qkw (t:PTok) (r:List PTok) (d:Nat):∃E:qab→Eff,(∀H,qah C (.box (pbox (t::r) d)::H) 131 [.ptr 0 0]=some (.ret (.tuple []) (E H)))∧∀H,(E H).of (.box (pbox (t::r) d)::H)= .box (pbox r d)::H:=
 met (step_c t r d) rfl (qaa _ _) (qaa _ _) rfl
theorem sign_ne {s:Str} {t:PTok} {r:List PTok} (hs:s≠[]) (h:hasS s (t::r)=false):(qap (t::r) !=s)=true:=by
 simp only[hasS,qn7,qap]at h ⊢
 cases h4:(t.sort==4||t.sort==5)
 ·simp[Ne.symm hs]
 ·simp[h4]at h ⊢;exact h
theorem qub {s:Str} {t:PTok} {r:List PTok} (h:hasS s (t::r)=true):qap (t::r)=s:=by
 simp only[hasS,qn7,qap,wba,beq_iff_eq]at h ⊢
 rw[if_pos h.1];exact h.2
theorem qjw (s:Str) (hs:s≠[]) (t:PTok) (r:List PTok) (d:Nat) (h:hasS s (t::r)=false):C 76 [.ptr 0 0,.str s] [.box (pbox (t::r) d)]=some (.ret (.bool false) .same):=by
 have hn:=sign_ne hs h
 have hn':(!(qap (t::r)==s))=true:=hn
 rw[C_fn rfl Tryz.func76 rfl (by kernel_rfl) (m:=9) rfl];simp only[Z3,simprocAttr,Tryz.f76,fx_76,qb7,hn']
 exact qdo (by simp[Eff.dirt]) rfl rfl
theorem qg5 (s:Str) (t:PTok) (r:List PTok) (d:Nat) (h:hasS s (t::r)=true):qbk C 76 [.ptr 0 0,.str s] [.box (pbox (t::r) d)] (.bool true) [.box (pbox r d)]:=by
 have hn:=qub h
 have hn':(!(qap (t::r)==s))=false:=by rw[hn];simp
 obtain⟨E,e1,e2⟩:=qkw t r d
 refine qa9 rfl Tryz.func76 rfl (by kernel_rfl) (m:=9) rfl ?_;simp only[Z3,simprocAttr,Tryz.f76,fx_76,effs,qb7,hn',e1,e2]
 exact qcv (.inl rfl) rfl rfl rfl (fun b hb=>by
  obtain rfl:b=0:=wb.1 hb
  exact qem _ _ r d _ rfl) rfl
theorem qfe (s:Str) (hs:s≠[]) (t:PTok) (r:List PTok) (d:Nat) (h:hasS s (t::r)=false) (H:qab):qah C (.box (pbox (t::r) d)::H) 76 [.ptr 0 0,.str s]=some (.ret (.bool false) .same):=
 qc7 (rest:=[.str s]) rfl rfl (qaa _ _) (qjw s hs t r d h) rfl
theorem qd5 (s:Str) (t:PTok) (r:List PTok) (d:Nat) (h:hasS s (t::r)=true):∃E:qab→Eff,(∀H,qah C (.box (pbox (t::r) d)::H) 76 [.ptr 0 0,.str s]=some (.ret (.bool true) (E H)))∧∀H,(E H).of (.box (pbox (t::r) d)::H)= .box (pbox r d)::H:=
 met (qg5 s t r d h) rfl (qaa _ _) (qaa _ _) rfl
theorem qkx (s:Str) (t:PTok) (r:List PTok) (d:Nat) (h:hasS s (t::r)=true):qbk C 78 [.ptr 0 0,.slice [[.str s]] .full] [.box (pbox (t::r) d)] (.tuple []) [.box (pbox r d)]:=by
 obtain⟨E,e1,e2⟩:=qd5 s t r d h
 refine qa9 rfl Tryz.func78 rfl (by kernel_rfl) (m:=17) rfl ?_;simp only[Z3,simprocAttr,Tryz.f78,qmn,effs,e1,e2]
 have d1:decide ((0:Int)<((1:Nat):Int))=true:=rfl
 have d0:decide ((1:Int)<((1:Nat):Int))=false:=rfl
 have g0:([[AVal.str s]]:List (List AVal))[0]? =some [.str s]:=rfl
 rw[qb4]
 simp only[Z3,simprocAttr,effs,qmn,e1,e2,d1,g0]
 rw[qb4]
 simp only[Z3,simprocAttr,effs,qmn,e1,e2,d0]
 exact qcv (.inr rfl) rfl rfl rfl (fun b hb=>by
  obtain rfl:b=0:=wb.1 hb
  exact qem _ _ r d _ rfl) rfl
theorem word_c (k:Int) (t:PTok) (r:List PTok) (d:Nat) (h:t.sort=k):qbk C 197 [.ptr 0 0,.int .i64 k] [.box (pbox (t::r) d)] (.str t.text) [.box (pbox r d)]:=by
 subst h
 obtain⟨E,e1,e2⟩:=qkw t r d
 refine qa9 rfl Tryz.func197 rfl (by kernel_rfl) (m:=16) rfl ?_;simp only[Z3,simprocAttr,Tryz.f197,fx_197,effs,qeb,bne_self_eq_false,e1,e2]
 exact qcv (.inl rfl) rfl rfl rfl (fun b hb=>by
  obtain rfl:b=0:=wb.1 hb
  exact qem _ _ r d _ rfl) rfl
end Go.Ab
namespace Go.Ab
open Go Go.Ab.Tab
theorem bind_c (s:Str):Ret C 152 [.str s] (.int .i64 (qa2 s)):=by
 refine Ret.mk rfl rfl ?_
 unfold qa2
 cases h1:(s==[45,62])with
 |true=>rw[if_pos (beq_iff_eq.1 h1)];rw[C_fn rfl Tryz.func152 rfl (by kernel_rfl) (m:=23) rfl];simp only[Z3,Nat.reduceAdd,Nat.reduceBEq,Int.reduceBEq,Int.reduceBNe,Int.reduceLT,Int.reduceLE,Tryz.f152,qgt,h1];rfl
 |false=>
  rw[if_neg (by simpa using h1)]
  cases h2:(s==[102,98,121])with
  |true=>rw[if_pos (beq_iff_eq.1 h2)];rw[C_fn rfl Tryz.func152 rfl (by kernel_rfl) (m:=23) rfl];simp only[Z3,Nat.reduceAdd,Nat.reduceBEq,Int.reduceBEq,Int.reduceBNe,Int.reduceLT,Int.reduceLE,Tryz.f152,qgt,h1,h2];rfl
  |false=>
   rw[if_neg (by simpa using h2)]
   cases h3:(s==[111,114])with
   |true=>rw[if_pos (beq_iff_eq.1 h3)];rw[C_fn rfl Tryz.func152 rfl (by kernel_rfl) (m:=23) rfl];simp only[Z3,Nat.reduceAdd,Nat.reduceBEq,Int.reduceBEq,Int.reduceBNe,Int.reduceLT,Int.reduceLE,Tryz.f152,qgt,h1,h2,h3];rfl
   |false=>
    rw[if_neg (by simpa using h3)]
    cases h4:(s==[97,110,100])with
    |true=>rw[if_pos (beq_iff_eq.1 h4)];rw[C_fn rfl Tryz.func152 rfl (by kernel_rfl) (m:=23) rfl];simp only[Z3,Nat.reduceAdd,Nat.reduceBEq,Int.reduceBEq,Int.reduceBNe,Int.reduceLT,Int.reduceLE,Tryz.f152,qgt,h1,h2,h3,h4];rfl
    |false=>
     rw[if_neg (by simpa using h4)]
     cases h5:(s==[60])with
     |true=>rw[if_pos (beq_iff_eq.1 h5)];rw[C_fn rfl Tryz.func152 rfl (by kernel_rfl) (m:=23) rfl];simp only[Z3,Nat.reduceAdd,Nat.reduceBEq,Int.reduceBEq,Int.reduceBNe,Int.reduceLT,Int.reduceLE,Tryz.f152,qgt,h1,h2,h3,h4,h5];rfl
     |false=>
      rw[if_neg (by simpa using h5)]
      cases h6:(s==[60,61])with
      |true=>rw[if_pos (beq_iff_eq.1 h6)];rw[C_fn rfl Tryz.func152 rfl (by kernel_rfl) (m:=23) rfl];simp only[Z3,Nat.reduceAdd,Nat.reduceBEq,Int.reduceBEq,Int.reduceBNe,Int.reduceLT,Int.reduceLE,Tryz.f152,qgt,h1,h2,h3,h4,h5,h6];rfl
      |false=>
       rw[if_neg (by simpa using h6)]
       cases h7:(s==[61])with
       |true=>rw[if_pos (beq_iff_eq.1 h7)];rw[C_fn rfl Tryz.func152 rfl (by kernel_rfl) (m:=23) rfl];simp only[Z3,Nat.reduceAdd,Nat.reduceBEq,Int.reduceBEq,Int.reduceBNe,Int.reduceLT,Int.reduceLE,Tryz.f152,qgt,h1,h2,h3,h4,h5,h6,h7];rfl
       |false=>
        rw[if_neg (by simpa using h7)]
        cases h8:(s==[60,62])with
        |true=>rw[if_pos (beq_iff_eq.1 h8)];rw[C_fn rfl Tryz.func152 rfl (by kernel_rfl) (m:=23) rfl];simp only[Z3,Nat.reduceAdd,Nat.reduceBEq,Int.reduceBEq,Int.reduceBNe,Int.reduceLT,Int.reduceLE,Tryz.f152,qgt,h1,h2,h3,h4,h5,h6,h7,h8];rfl
        |false=>
         rw[if_neg (by simpa using h8)]
         cases h9:(s==[43])with
         |true=>rw[if_pos (beq_iff_eq.1 h9)];rw[C_fn rfl Tryz.func152 rfl (by kernel_rfl) (m:=23) rfl];simp only[Z3,Nat.reduceAdd,Nat.reduceBEq,Int.reduceBEq,Int.reduceBNe,Int.reduceLT,Int.reduceLE,Tryz.f152,qgt,h1,h2,h3,h4,h5,h6,h7,h8,h9];rfl
         |false=>
          rw[if_neg (by simpa using h9)]
          cases h10:(s==[45])with
          |true=>rw[if_pos (beq_iff_eq.1 h10)];rw[C_fn rfl Tryz.func152 rfl (by kernel_rfl) (m:=23) rfl];simp only[Z3,Nat.reduceAdd,Nat.reduceBEq,Int.reduceBEq,Int.reduceBNe,Int.reduceLT,Int.reduceLE,Tryz.f152,qgt,h1,h2,h3,h4,h5,h6,h7,h8,h9,h10];rfl
          |false=>
           rw[if_neg (by simpa using h10)]
           cases h11:(s==[42])with
           |true=>rw[if_pos (beq_iff_eq.1 h11)];rw[C_fn rfl Tryz.func152 rfl (by kernel_rfl) (m:=23) rfl];simp only[Z3,Nat.reduceAdd,Nat.reduceBEq,Int.reduceBEq,Int.reduceBNe,Int.reduceLT,Int.reduceLE,Tryz.f152,qgt,h1,h2,h3,h4,h5,h6,h7,h8,h9,h10,h11];rfl
           |false=>
            rw[if_neg (by simpa using h11)]
            cases h12:(s==[47])with
            |true=>rw[if_pos (beq_iff_eq.1 h12)];rw[C_fn rfl Tryz.func152 rfl (by kernel_rfl) (m:=23) rfl];simp only[Z3,Nat.reduceAdd,Nat.reduceBEq,Int.reduceBEq,Int.reduceBNe,Int.reduceLT,Int.reduceLE,Tryz.f152,qgt,h1,h2,h3,h4,h5,h6,h7,h8,h9,h10,h11,h12];rfl
            |false=>
             rw[if_neg (by simpa using h12)]
             cases h13:(s==[37])with
             |true=>rw[if_pos (beq_iff_eq.1 h13)];rw[C_fn rfl Tryz.func152 rfl (by kernel_rfl) (m:=23) rfl];simp only[Z3,Nat.reduceAdd,Nat.reduceBEq,Int.reduceBEq,Int.reduceBNe,Int.reduceLT,Int.reduceLE,Tryz.f152,qgt,h1,h2,h3,h4,h5,h6,h7,h8,h9,h10,h11,h12,h13];rfl
             |false=>
              rw[if_neg (by simpa using h13)]
              rw[C_fn rfl Tryz.func152 rfl (by kernel_rfl) (m:=23) rfl];simp only[Z3,Nat.reduceAdd,Nat.reduceBEq,Int.reduceBEq,Int.reduceBNe,Int.reduceLT,Int.reduceLE,Tryz.f152,qgt,h1,h2,h3,h4,h5,h6,h7,h8,h9,h10,h11,h12,h13];rfl
theorem qx7 (op:Int) (es:List PExpr) (hl:es.length≤qac):Ret C 153 [.int .i64 op,.slice (es.map PExpr.cells) .full] (.agg (PExpr.mk op [] 0 [] es).cells):=by
 refine Ret.mk rfl rfl ?_
 rw[C_fn rfl Tryz.func153 rfl (by kernel_rfl) (m:=6) rfl];simp only[Z3,Nat.reduceAdd,Nat.reduceBEq,Int.reduceBEq,Int.reduceBNe,Int.reduceLT,Int.reduceLE,Tryz.f153,fx_153]
 exact qdo (by simp[Eff.dirt]) rfl (by rw[PExpr.cells_eq];rfl)
end Go.Ab
namespace Go.Ab
open Go Go.Ab.Tab
def qaz:List AVal:=[.int .i64 0,.str [],.int .i64 0,.slice [] .full,.slice [] .full]
def kidsV (n:Nat) (us:List AVal):Option OR:=
 bnd (qd9 (fun i=>some (i*5,5)) (List.replicate n qaz).flatten (us.zipIdx.map fun x=>(x.2,x.1))) fun cs=>bnd (qex (chop 5 n cs)) fun es=>some (.val (.slice es .full) .same)
theorem quc (a b:PExpr):kidsV 2 [.agg a.cells,.agg b.cells]=some (.val (.slice [a.cells,b.cells] .full) .same):=by
 rw[a.cells_eq,b.cells_eq];rfl
theorem kidsV_3 (a b c:PExpr):kidsV 3 [.agg a.cells,.agg b.cells,.agg c.cells]=some (.val (.slice [a.cells,b.cells,c.cells] .full) .same):=by
 rw[a.cells_eq,b.cells_eq,c.cells_eq];rfl
section
variable {cmp:List TypeId} {call:Call} {dst:Option Tmp} {ty:TypeId} {pos:String} {after:Array Edge} {gd:Option (Nat×Bool)} {ts:List AVal} {h:qab}
theorem qe4 (o0 o1:Operand):opA PP cmp call ⟨dst,.buildSlice 35 2 #[(0,o0),(1,o1)],ty,pos,after,gd⟩ ts h=bnd (qbn ts [o0,o1]) (kidsV 2):=by
 rw[qlj qh9 cmp call dst ty pos after gd ts h 2 _ (by decide),qbx]
 simp only[qcq,qbn]
 cases qae o0 ts with
 |none=>rfl
 |some x=>cases qae o1 ts<;>rfl
theorem bs35_3 (o0 o1 o2:Operand):opA PP cmp call ⟨dst,.buildSlice 35 3 #[(0,o0),(1,o1),(2,o2)],ty,pos,after,gd⟩ ts h=bnd (qbn ts [o0,o1,o2]) (kidsV 3):=by
 rw[qlj qh9 cmp call dst ty pos after gd ts h 3 _ (by decide),qbx]
 simp only[qcq,qbn]
 cases qae o0 ts with
 |none=>rfl
 |some x=>cases qae o1 ts with
  |none=>rfl
  |some y=>cases qae o2 ts<;>rfl
end
theorem PR.bind_ok {α β:Type} {x:PR α} {k:α→List PTok→PR β} {b:β} {ts:List PTok} (h:x.bind k= .ok b ts):∃a ts1,x= .ok a ts1∧k a ts1= .ok b ts:=by
 cases x with
 |ok a ts1=>exact⟨a,ts1,rfl,h⟩
 |bad e t=>cases h
 |out=>cases h
theorem qa8 {β:Type} {s:Str} {ts ts':List PTok} {k:List PTok→PR β} {b:β} (h:qbi s ts k= .ok b ts'):hasS s ts=true∧k ts.tail= .ok b ts':=by
 unfold qbi at h
 split at h
 ·exact⟨‹_›,h⟩
 ·cases h
theorem qb1 {β:Type} {n:Int} {ts ts':List PTok} {k:Str→List PTok→PR β} {b:β} (h:qeq n ts k= .ok b ts'):∃t r,ts=t::r∧t.sort=n∧k t.text r= .ok b ts':=by
 unfold qeq at h
 split at h
 ·rename_i t r
  split at h
  ·rename_i hs;exact⟨t,r,rfl,by simpa using hs,h⟩
  ·cases h
 ·cases h
theorem qhs {s:Str} {t:PTok} {r:List PTok} (h:hasS s (t::r)=true):(qap (t::r)==s)=true:=by rw[qub h];simp
theorem qht {s:Str} {t:PTok} {r:List PTok} (hs:s≠[]) (h:hasS s (t::r)=false):(qap (t::r)==s)=false:=by
 have:=sign_ne hs h;simpa[bne]using this
theorem qce (s:Str) (t:PTok) (r:List PTok) (d:Nat) (h:hasS s (t::r)=true):∃E:qab→Eff,(∀H,qah C (.box (pbox (t::r) d)::H) 78 [.ptr 0 0,.slice [[.str s]] .full]=some (.ret (.tuple []) (E H)))∧∀H,(E H).of (.box (pbox (t::r) d)::H)= .box (pbox r d)::H:=
 met (qkx s t r d h) rfl (qaa _ _) (qaa _ _) rfl
theorem wordM (k:Int) (t:PTok) (r:List PTok) (d:Nat) (h:t.sort=k):∃E:qab→Eff,(∀H,qah C (.box (pbox (t::r) d)::H) 197 [.ptr 0 0,.int .i64 k]=some (.ret (.str t.text) (E H)))∧∀H,(E H).of (.box (pbox (t::r) d)::H)= .box (pbox r d)::H:=
 met (word_c k t r d h) rfl (qaa _ _) (qaa _ _) rfl
theorem qen (t:PTok) (r:List PTok) (d:Nat) (h:t.sort=1):qbk C 132 [.ptr 0 0] [.box (pbox (t::r) d)] (.str t.text) [.box (pbox r d)]:=by
 obtain⟨E,e1,e2⟩:=wordM 1 t r d h
 refine qa9 rfl Tryz.func132 rfl (by kernel_rfl) (m:=4) rfl ?_;simp only[Z3,simprocAttr,Tryz.f132,fx_132,effs,e1,e2]
 exact qcv (.inl rfl) rfl rfl rfl (fun b hb=>by
  obtain rfl:b=0:=wb.1 hb
  exact qem _ _ r d _ rfl) rfl
theorem qim (t:PTok) (r:List PTok) (d:Nat) (h:t.sort=2):qbk C 134 [.ptr 0 0] [.box (pbox (t::r) d)] (.str t.text) [.box (pbox r d)]:=by
 obtain⟨E,e1,e2⟩:=wordM 2 t r d h
 refine qa9 rfl Tryz.func134 rfl (by kernel_rfl) (m:=4) rfl ?_;simp only[Z3,simprocAttr,Tryz.f134,fx_134,effs,e1,e2]
 exact qcv (.inl rfl) rfl rfl rfl (fun b hb=>by
  obtain rfl:b=0:=wb.1 hb
  exact qem _ _ r d _ rfl) rfl
def RdE (f:FuncId) (rest:List AVal) (ts:List PTok) (d:Nat) (e:PExpr) (ts':List PTok):Prop:=qbk C f (.ptr 0 0::rest) [.box (pbox ts d)] (.agg e.cells) [.box (pbox ts' d)]
theorem RdE.m {f:FuncId} {rest:List AVal} {ts ts':List PTok} {d:Nat} {e:PExpr} (h:RdE f rest ts d e ts') (hr:qad rest=[]):
 ∃E:qab→Eff,(∀H,qah C (.box (pbox ts d)::H) f (.ptr 0 0::rest)=some (.ret (.agg e.cells) (E H)))∧∀H,(E H).of (.box (pbox ts d)::H)= .box (pbox ts' d)::H:=
 met h hr (qaa _ _) (qaa _ _) (by simp only[refs];exact e.norefs)
theorem fin_e {n:Nat} {rs:List ResultVar} {h1:qab} {s:St} {ex:AEx} {cs:List AVal} {e:PExpr} (hex:ex= .ret∨ex= .normal) (hr:resA PP rs s=some [.agg cs]) (hv:cs.map qbm=e.cells) (hs:∀b,b<n→qib n s.heap b) (hh:s.heap.take n=h1):finE PP n rs (.agg e.cells) h1 (some (ex,s)):=
 qcv hex hr (by show AVal.agg (cs.map qbm)=_;rw[hv]) (by simp only[lowA,refs,e.norefs];rfl) hs hh
theorem res_e {s:St} {k b:Nat} {cs:List AVal} (h1:s.tmps[k]? =some (.ptr b 0)) (h2:s.heap[b]? =some (.box cs)) (h3:cs.length=5):resA PP [.cell k 37] s=some [.agg cs]:=by
 simp only[resA,h1,qfz,h2,qe8,qca,qb6,wea]
 rw[List.take_of_length_le (by omega),if_pos h3]
theorem qes {k b:Nat} {h1:qab} {s:St} {ex:AEx} {cs:List AVal} {e:PExpr} {ts:List PTok} {d:Nat} (hex:ex= .ret∨ex= .normal) (g1:s.tmps[k]? =some (.ptr b 0)) (g2:s.heap[b]? =some (.box cs)) (hv:cs.map qbm=e.cells)
 (hb:s.heap[0]? =some (.box (pbox ts d))) (hh:s.heap.take 1=h1):finE PP 1 [.cell k 37] (.agg e.cells) h1 (some (ex,s)):=
 fin_e hex (res_e g1 g2 (by have:=congrArg List.length hv;rw[List.length_map]at this;rw[this,e.len])) hv (fun b hb'=>by
  obtain rfl:b=0:=wb.1 hb'
  exact qem _ _ ts d _ hb) hh
theorem qh4 (e:PExpr):e.cells.map qbm=e.cells:=by rw[e.cells_eq];rfl
theorem stays1 {H:qab} {ts:List PTok} {d:Nat} (h:H[0]? =some (.box (pbox ts d))):∀b,b<1→qib 1 H b:=fun b hb=>by
 obtain rfl:b=0:=wb.1 hb
 exact qem _ _ ts d _ h
def HypE (R:Rd):Prop:=∀(o least:Nat) (ts:List PTok) (e:PExpr) (ts':List PTok),TsOk ts→R o least ts= .ok e ts'→TsOk ts'∧(least=0→RdE 151 [] ts o e ts')∧(0<least→RdE 99 [.int .i64 least] ts o e ts')
theorem qd1 {R:Rd} (hR:HypE R) {o:Nat} {ts ts':List PTok} {e:PExpr} (hT:TsOk ts) (h:R o 1 ts= .ok e ts'):TsOk ts'∧RdE 50 [] ts o e ts':=by
 obtain⟨h1,_,h3⟩:=hR o 1 ts e ts' hT h
 have h3':RdE 99 [.int .i64 1] ts o e ts':=h3 (by omega)
 obtain⟨E,e1,e2⟩:=h3'.m rfl
 refine⟨h1,?_⟩
 unfold RdE
 refine qa9 rfl Tryz.func50 rfl (by kernel_rfl) (m:=4) rfl ?_;simp only[Z3,simprocAttr,Tryz.f50,fx_50,effs,e1,e2]
 exact qes (ts:=ts') (d:=o) (.inl rfl) rfl rfl (qh4 e) rfl rfl
end Go.Ab
namespace Go.Ab
open Go Go.Ab.Tab
theorem met3 {f:FuncId} {rest:List AVal} {x y:List AVal} {v:AVal} (g:qbk C f (.ptr 0 0::rest) [.box x] v [.box y]) (hr:qad rest=[]) (px:qad x=[]) (py:qad y=[]) (hv:refs v=[]):
 ∃E:qab→Eff,(∀H,qah C (.box x::H) f (.ptr 0 0::rest)=some (.ret v (E H)))∧(∀H,(E H).of (.box x::H)= .box y::H)∧∀H b,0<b→b<H.length+1→(E H).dirt.contains b=false:=by
 obtain⟨e,he,hof⟩:=id g
 have h:∀H,qah C (.box x::H) f (.ptr 0 0::rest)=some (.ret v (qgf (.box x::H) [0] e)):=by
  intro H
  have ha:qad (.ptr 0 0::rest)=[0]:=by simp[qad,refs,hr]
  unfold qah
  have hidx:qbq (.box x::H) 256 (qad (.ptr 0 0::rest)) []=[0]:=by rw[ha];simp[qbq,px]
  have e1:subH (.box x::H) [0]=[.box x]:=by simp[subH,renB,qbo px]
  have e2:renL (fun x=>[0].idxOf x) (.ptr 0 0::rest)= .ptr 0 0::rest:=by
   simp only[renL,ren,qbo hr];simp
  simp only[hidx]
  rw[if_pos (by unfold qcz;simp[ha,qdj,px]),e1,e2,he]
  simp only
  rw[qfu v (by rw[hv];simp)]
 refine⟨_,h,fun H=> ?_,fun H b h1 h2=> ?_⟩
 ·obtain⟨E,hE,hh⟩:=qd4 qay (b:=0) (H:= .box x::H) hr rfl px py g hv
  rw[h H]at hE
  cases hE
  exact hh
 ·cases e with
  |same=>rfl
  |heap h' d=>
   simp only[qgf,Eff.dirt,List.contains_eq_mem,decide_eq_false_iff_not,w7,not_exists,not_and]
   intro i _ hi
   unfold qe9 at hi
   simp only[wa,wj]at hi
   split at hi
   ·have:i=0:=by omega
    subst this
    simp at hi
    omega
   ·omega
theorem RdE.m3 {f:FuncId} {rest:List AVal} {ts ts':List PTok} {d:Nat} {e:PExpr} (h:RdE f rest ts d e ts') (hr:qad rest=[]):
 ∃E:qab→Eff,(∀H,qah C (.box (pbox ts d)::H) f (.ptr 0 0::rest)=some (.ret (.agg e.cells) (E H)))∧(∀H,(E H).of (.box (pbox ts d)::H)= .box (pbox ts' d)::H)∧∀H b,0<b→b<H.length+1→(E H).dirt.contains b=false:=
 met3 h hr (qaa _ _) (qaa _ _) (by simp only[refs];exact e.norefs)
theorem node1 (op:Int) (k:PExpr):Ret C 153 [.int .i64 op,.slice [k.cells] .full] (.agg (PExpr.mk op [] 0 [] [k]).cells):=qx7 op [k] (by simp[qac])
theorem qlq (op:Int) (k l:PExpr):Ret C 153 [.int .i64 op,.slice [k.cells,l.cells] .full] (.agg (PExpr.mk op [] 0 [] [k,l]).cells):=qx7 op [k,l] (by simp[qac])
theorem node3 (op:Int) (k l m:PExpr):Ret C 153 [.int .i64 op,.slice [k.cells,l.cells,m.cells] .full] (.agg (PExpr.mk op [] 0 [] [k,l,m]).cells):=qx7 op [k,l,m] (by simp[qac])
theorem mk_c (op:Int) (name:Str) (n:Int) (cons:List Str) (kids:List PExpr) (tk tk':Tk):[AVal.int .i64 op,.str name,.int .i64 n,.slice (cons.map fun s=>[.str s]) tk,.slice (kids.map PExpr.cells) tk'].map qbm=(PExpr.mk op name n cons kids).cells:=by
 rw[PExpr.cells_eq];rfl
theorem prefix_c {m:Nat} {R:Rd} (hR:HypE R) {d:Nat} {ts ts':List PTok} {e:PExpr} (hT:TsOk ts) (hS:qdl m R d ts= .ok e ts'→TsOk ts'∧RdE 247 [] ts d e ts') (h:qe7 m R d ts= .ok e ts'):
 TsOk ts'∧RdE 213 [] ts d e ts':=by
 unfold qe7 at h
 unfold RdE
 obtain⟨t,r,rfl⟩:=hT.ne
 by_cases h1:hasS [110,111,116] (t::r)=true
 ·rw[if_pos h1]at h
  obtain⟨_,_,hc,hTr,_,_⟩:=hT.hasS h1
  cases hc
  obtain⟨k,ts1,hk,hf⟩:=PR.bind_ok h
  cases hf
  obtain⟨hT',hu,_⟩:=hR _ _ _ _ _ hTr hk
  refine⟨hT',?_⟩
  obtain⟨E,e1,e2⟩:=qkw t r d
  obtain⟨E',u1,u2⟩:=(hu rfl).m rfl
  have q1:=qhs h1
  have hs:=qub h1
  refine qa9 rfl Tryz.func213 rfl (by kernel_rfl) (m:=48) rfl ?_;simp only[Z3,simprocAttr,Tryz.f213,qgc,effs,qb7,q1,e1,e2,u1,u2]
  exact qes (ts:=ts') (d:=d) (.inl rfl) rfl rfl (by rw[hs];exact mk_c 5 _ 0 [] [k] .full .full) rfl rfl
 have b1:=wq.2 h1
 rw[if_neg h1]at h
 have q1:=qht (s:=[110,111,116]) (by decide) b1
 by_cases h2:hasS [45] (t::r)=true
 ·rw[if_pos h2]at h
  obtain⟨_,_,hc,hTr,_,_⟩:=hT.hasS h2
  cases hc
  obtain⟨k,ts1,hk,hf⟩:=PR.bind_ok h
  cases hf
  obtain⟨hT',hu,_⟩:=hR _ _ _ _ _ hTr hk
  refine⟨hT',?_⟩
  obtain⟨E,e1,e2⟩:=qkw t r d
  obtain⟨E',u1,u2⟩:=(hu rfl).m rfl
  have q2:=qhs h2
  have hs:=qub h2
  refine qa9 rfl Tryz.func213 rfl (by kernel_rfl) (m:=48) rfl ?_;simp only[Z3,simprocAttr,Tryz.f213,qgc,effs,qb7,q1,q2,e1,e2,u1,u2]
  exact qes (ts:=ts') (d:=d) (.inl rfl) rfl rfl (by rw[hs];exact mk_c 5 _ 0 [] [k] .full .full) rfl rfl
 have b2:=wq.2 h2
 rw[if_neg h2]at h
 have q2:=qht (s:=[45]) (by decide) b2
 by_cases h3:hasS [112,114,101] (t::r)=true
 ·rw[if_pos h3]at h
  obtain⟨_,_,hc,hTr,_,_⟩:=hT.hasS h3
  cases hc
  obtain⟨k,ts1,hk,hf⟩:=PR.bind_ok h
  cases hf
  obtain⟨hT',hu,_⟩:=hR _ _ _ _ _ hTr hk
  refine⟨hT',?_⟩
  obtain⟨E,e1,e2⟩:=qkw t r d
  obtain⟨E',u1,u2⟩:=(hu rfl).m rfl
  have q3:=qhs h3
  refine qa9 rfl Tryz.func213 rfl (by kernel_rfl) (m:=48) rfl ?_;simp only[Z3,simprocAttr,Tryz.f213,qgc,effs,qb7,q1,q2,q3,e1,e2,u1,u2,node1 _ _ _]
  exact qes (ts:=ts') (d:=d) (.inl rfl) rfl rfl (qh4 _) rfl rfl
 have b3:=wq.2 h3
 rw[if_neg h3]at h
 have q3:=qht (s:=[112,114,101]) (by decide) b3
 by_cases h4:hasS [105,102] (t::r)=true
 ·rw[if_pos h4]at h
  obtain⟨_,_,hc,hTr,_,_⟩:=hT.hasS h4
  cases hc
  obtain⟨a,ts1,ha,h⟩:=PR.bind_ok h
  obtain⟨hT1,ra⟩:=qd1 hR hTr ha
  obtain⟨w1,h⟩:=qa8 h
  obtain⟨t1,r1,hc,hT1',_,_⟩:=hT1.hasS w1
  subst hc
  obtain⟨b,ts2,hb,h⟩:=PR.bind_ok h
  obtain⟨hT2,rb⟩:=qd1 hR hT1' hb
  obtain⟨w2,h⟩:=qa8 h
  obtain⟨t2,r2,hc,hT2',_,_⟩:=hT2.hasS w2
  subst hc
  obtain⟨c,ts3,hc,h⟩:=PR.bind_ok h
  obtain⟨hT3,rc⟩:=qd1 hR hT2' hc
  cases h
  refine⟨hT3,?_⟩
  obtain⟨E,e1,e2⟩:=qkw t r d
  obtain⟨Ea,a1,a2⟩:=ra.m rfl
  obtain⟨Ew,v1,v2⟩:=qce _ t1 r1 d w1
  obtain⟨Eb,c1,c2⟩:=rb.m rfl
  obtain⟨Ex,x1,x2⟩:=qce _ t2 r2 d w2
  obtain⟨Ec,y1,y2,y3⟩:=rc.m3 rfl
  have q4:=qhs h4
  refine qa9 rfl Tryz.func213 rfl (by kernel_rfl) (m:=48) rfl ?_;simp only[Z3,simprocAttr,Tryz.f213,qgc,effs,qb7,q1,q2,q3,q4,e1,e2,a1,a2,v1,v2,c1,c2,x1,x2,y1,y2,bs35_3,kidsV_3,node3 _ _ _ _ _]
  rw[qed]
  ·simp only[Z3,simprocAttr,effs,qgc,bs35_3,kidsV_3,node3 _ _ _ _ _,y2]
   exact qes (ts:=ts') (d:=d) (.inl rfl) rfl rfl (qh4 _) rfl rfl
  ·kernel_rfl
  ·have z2:=y3 [Blk.box qaz,Blk.box a.cells,Blk.box b.cells] 2 (by omega) (by simp)
   have z3:=y3 [Blk.box qaz,Blk.box a.cells,Blk.box b.cells] 3 (by omega) (by simp)
   unfold qaz at z2 z3
   simp only[qak,qcd,qae,qdu,z2,z3,wo,wv,wt,we,wg]
 have b4:=wq.2 h4
 rw[if_neg h4]at h
 have q4:=qht (s:=[105,102]) (by decide) b4
 obtain⟨hT',rs⟩:=hS h
 refine⟨hT',?_⟩
 obtain⟨E',u1,u2⟩:=rs.m rfl
 refine qa9 rfl Tryz.func213 rfl (by kernel_rfl) (m:=48) rfl ?_;simp only[Z3,simprocAttr,Tryz.f213,qgc,effs,qb7,q1,q2,q3,q4,u1,u2]
 exact qes (ts:=ts') (d:=d) (.inl rfl) rfl rfl (qh4 _) rfl rfl
end Go.Ab
namespace Go.Ab
open Go Go.Ab.Tab
def PExpr.cellsT (e:PExpr) (t:Tk):List AVal:=[.int .i64 e.op,.str e.name,.int .i64 e.n,.slice (e.cons.map fun s=>[.str s]) t,.slice (e.kids.map PExpr.cells) t]
theorem quz (e:PExpr):e.cells=e.cellsT .free:=by rw[e.cells_eq];rfl
theorem qky (e:PExpr) (t:Tk):(e.cellsT t).map qbm=e.cells:=by rw[e.cells_eq];rfl
theorem qee (a b:PExpr) (t:Tk):kidsV 2 [.agg [.int .i64 a.op,.str a.name,.int .i64 a.n,.slice (a.cons.map fun s=>[.str s]) t,.slice (a.kids.map PExpr.cells) t],.agg b.cells]=some (.val (.slice [a.cells,b.cells] .full) .same):=by
 rw[a.cells_eq,b.cells_eq];rfl
theorem qhg {c:Prop} [Decidable c] {a b k:Nat} (h1:a≤k) (h2:b≤k):(if c then a else b)≤k:=by split<;>assumption
theorem bind_le (s:Str):qa2 s≤7:=by
 unfold qa2
 refine qhg (by decide) ?_
 refine qhg (by decide) ?_
 refine qhg (by decide) ?_
 refine qhg (by decide) ?_
 refine qhg (by decide) ?_
 refine qhg (by decide) ?_
 refine qhg (by decide) ?_
 refine qhg (by decide) ?_
 refine qhg (by decide) ?_
 refine qhg (by decide) ?_
 refine qhg (by decide) ?_
 refine qhg (by decide) ?_
 exact qhg (by decide) (by decide)
theorem qsu {t:PTok} {r:List PTok} (h:qa2 (qap (t::r))≠0):t.sort≠6:=by
 intro h6
 apply h
 simp only[qap,h6]
 rfl
theorem qvk {R:Rd} (hR:HypE R) {o least:Nat} (hl:0<least) {e:PExpr} {ts':List PTok}:∀(n most:Nat) (left:PExpr) (ts:List PTok),TsOk ts→qcm R o least n most left ts= .ok e ts'→TsOk ts'
 |0,_,_,_,_,h=>by cases h
 |n+1,most,left,ts,hT,h=>by
  obtain⟨t,r,rfl⟩:=hT.ne
  simp only[qcm]at h
  split at h
  ·cases h;exact hT
  ·rename_i hb
   have hne:qa2 (qap (t::r))≠0:=by omega
   have hTr:TsOk r:=hT.tail (qsu hne)
   split at h
   ·obtain⟨k,ts1,hk,h⟩:=PR.bind_ok h
    cases h
    exact(hR _ _ _ _ _ hTr hk).1
   ·split at h
    ·obtain⟨k,ts1,hk,h⟩:=PR.bind_ok h
     exact qvk hR hl n _ _ _ (hR _ _ _ _ _ hTr hk).1 h
    ·obtain⟨k,ts1,hk,h⟩:=PR.bind_ok h
     exact qvk hR hl n _ _ _ (hR _ _ _ _ _ hTr hk).1 h
theorem unary_c {o:Nat} {ts ts':List PTok} {e:PExpr} (ho:o<100) (hp:RdE 213 [] ts (o+1) e ts'):RdE 151 [] ts o e ts':=by
 obtain⟨E,u1,u2⟩:=hp.m rfl
 have v1:∀H,qah C (.box [.slice (ts.map PTok.cells) .free,.int .i64 ((o:Int)+1)]::H) 213 [.ptr 0 0]=some (.ret (.agg e.cells) (E H)):=u1
 have v2:∀H,(E H).of (.box [.slice (ts.map PTok.cells) .free,.int .i64 ((o:Int)+1)]::H)= .box [.slice (ts'.map PTok.cells) .free,.int .i64 ((o:Int)+1)]::H:=u2
 have w1:qbj .i64 ((o:Int)+1)=(o:Int)+1:=qhm (by omega) (by omega)
 have w2:qbj .i64 ((o:Int)+1-1)=(o:Int):=by rw[show(o:Int)+1-1=o by omega];exact qhm (by omega) (by omega)
 have d1:decide ((100:Int)<(o:Int)+1)=false:=decide_eq_false (by omega)
 unfold RdE
 refine qa9 rfl Tryz.func151 rfl (by kernel_rfl) (m:=27) rfl ?_;simp only[Z3,simprocAttr,Tryz.f151,fx_151,effs,pbox,w1,w2,d1,v1,v2]
 exact qes (ts:=ts') (d:=o) (.inl rfl) rfl rfl (qh4 e) rfl rfl
structure InSt where
 n:Nat
 most:Nat
 left:PExpr
 tk:Tk
 ts:List PTok
theorem infix_c {N:Nat} {R:Rd} (hR:HypE R) {o least:Nat} {ts ts1 ts':List PTok} {left e:PExpr} (hpos:0<least) (hT:TsOk ts) (hu:R o 0 ts= .ok left ts1) (hloop:qcm R o least N 7 left ts1= .ok e ts'):
 RdE 99 [.int .i64 least] ts o e ts':=by
 obtain⟨hT1,ru,_⟩:=hR _ _ _ _ _ hT hu
 obtain⟨E,u1,u2⟩:=(ru rfl).m rfl
 unfold RdE
 refine qa9 rfl Tryz.func99 rfl (by kernel_rfl) (m:=52) rfl ?_;simp only[Z3,simprocAttr,Tryz.f99,qep,effs,u1,u2]
 generalize hb:qam PP cmp0 C lpC _=f;generalize hl:lpC f _=r
 obtain⟨ex,s',rfl,⟨rfl,tk',h2⟩⟩:=qel (α:=InSt) hl [7,8,11,12,13,14,15,16,17,18,19,20,21,22,23,24,25,26,27,28,29,30,31,32,33,34,35,36,37,38,39,40,41,42,43,44,45,46,47,48,49,50,51,52,53] (fun a=>[(6,.int .i64 a.most)]) (fun a=>[.box (pbox a.ts o),.box qaz,.box (a.left.cellsT a.tk)]) (fun a=>TsOk a.ts∧qcm R o least a.n a.most a.left a.ts= .ok e ts') (fun a=>a.n) (fun _=>())
  (fun ts _ ex s=>ex= .ret∧∃tk,At [6,7,8,11,12,13,14,15,16,17,18,19,20,21,22,23,24,25,26,27,28,29,30,31,32,33,34,35,36,37,38,39,40,41,42,43,44,45,46,47,48,49,50,51,52,53] ts [.box (pbox ts' o),.box (e.cellsT tk)] [] s) ⟨N,7,left,.free,ts1⟩ ⟨hT1,hloop⟩ (by rw[quz];exact At.of [] (by simp only[ats];rfl) (by simp only[List.append_nil];rfl)) (by
   rintro⟨n,most,left,tk,ts⟩ j H d ⟨hTs,hp⟩
   clear hl;subst hb
   simp only at hTs hp ⊢
   cases n with
   |zero=>cases hp
   |succ n=>
    obtain⟨t,r,rfl⟩:=hTs.ne
    simp only[qcm]at hp
    have hbl:=bind_le (qap (t::r))
    have cb:=bind_c (qap (t::r))
    by_cases hb1:qa2 (qap (t::r))<least∨most<qa2 (qap (t::r))
    ·rw[if_pos hb1]at hp
     cases hp
     by_cases hb2:qa2 (qap (t::r))<least
     ·have d1:decide (((qa2 (qap (t::r)):Nat):Int)<(least:Int))=true:=decide_eq_true (by omega)
      simp only[Z3,simprocAttr,effs,qep,PExpr.cellsT,qaz,qb7,cb _,d1]
      exact .inr ⟨_,_,rfl,by simp,rfl,tk,At.of _ (by simp only[ats,wca]) (by simp only[wi,wh,wk];rfl)⟩
     ·have d1:decide (((qa2 (qap (t::r)):Nat):Int)<(least:Int))=false:=decide_eq_false (by omega)
      have d2:decide ((most:Int)<((qa2 (qap (t::r)):Nat):Int))=true:=decide_eq_true (by omega)
      simp only[Z3,simprocAttr,effs,qep,PExpr.cellsT,qaz,qb7,cb _,d1,d2]
      exact .inr ⟨_,_,rfl,by simp,rfl,tk,At.of _ (by simp only[ats,wca]) (by simp only[wi,wh,wk];rfl)⟩
    ·rw[if_neg hb1]at hp
     have hne:qa2 (qap (t::r))≠0:=by omega
     have hTr:=hTs.tail (qsu hne)
     have d1:decide (((qa2 (qap (t::r)):Nat):Int)<(least:Int))=false:=decide_eq_false (by omega)
     have d2:decide ((most:Int)<((qa2 (qap (t::r)):Nat):Int))=false:=decide_eq_false (by omega)
     obtain⟨Es,s1,s2⟩:=qkw t r o
     by_cases q1:qa2 (qap (t::r))=1
     ·rw[if_pos q1]at hp
      obtain⟨k,ts2,hk,hp⟩:=PR.bind_ok hp
      cases hp
      obtain⟨_,_,rk⟩:=hR _ _ _ _ _ hTr hk
      have rk':RdE 99 [.int .i64 1] r o k ts':=rk (by omega)
      obtain⟨Ek,y1,y2,y3⟩:=rk'.m3 rfl
      have e1:(((qa2 (qap (t::r)):Nat):Int)==1)=true:=by rw[q1];rfl
      simp only[Z3,simprocAttr,effs,qep,PExpr.cellsT,qaz,qb7,cb _,d1,d2,s1,s2,e1,y1,y2,qe4,qee,qlq _ _ _ _]
      rw[qed]
      ·simp only[Z3,simprocAttr,effs,qep,y2,qlq _ _ _ _]
       exact .inr ⟨_,_,rfl,by simp,rfl,.free,At.of _ (by simp only[ats]<;>rfl) (by simp only[wi,wh,wk]<;>rfl)⟩
      ·kernel_rfl
      ·have z2:=y3 (Blk.box qaz::Blk.box (left.cellsT tk)::H) 2 (by omega) (by simp)
       unfold qaz PExpr.cellsT at z2
       simp only[qak,qcd,qae,qdu,z2,wo,wv,wt,we,wg]
     ·rw[if_neg q1]at hp
      have e1:(((qa2 (qap (t::r)):Nat):Int)==1)=false:=by simp;omega
      by_cases q2:qa2 (qap (t::r))=2
      ·rw[if_pos q2]at hp
       obtain⟨k,ts2,hk,hp⟩:=PR.bind_ok hp
       obtain⟨hT2,_,rk⟩:=hR _ _ _ _ _ hTr hk
       have rk':RdE 99 [.int .i64 2] r o k ts2:=rk (by omega)
       obtain⟨Ek,y1,y2,y3⟩:=rk'.m3 rfl
       have e2:(((qa2 (qap (t::r)):Nat):Int)==2)=true:=by rw[q2];rfl
       simp only[Z3,simprocAttr,effs,qep,PExpr.cellsT,qaz,qb7,cb _,d1,d2,s1,s2,e1,e2,y1,y2,qe4,qee,qlq _ _ _ _]
       rw[qed]
       ·simp only[Z3,simprocAttr,effs,qep,y2,qlq _ _ _ _]
        exact .inl ⟨⟨n,1,eFby left k,.free,ts2⟩,_,rfl,⟨hT2,hp⟩,At.of _ (by simp only[ats]<;>rfl) (by simp only[wi,wh,wk]<;>rfl),by simp only[];omega,trivial⟩
       ·kernel_rfl
       ·have z2:=y3 (Blk.box qaz::Blk.box (left.cellsT tk)::H) 2 (by omega) (by simp)
        unfold qaz PExpr.cellsT at z2
        simp only[qak,qcd,qae,qdu,z2,wo,wv,wt,we,wg]
      ·rw[if_neg q2]at hp
       have e2:(((qa2 (qap (t::r)):Nat):Int)==2)=false:=by simp;omega
       obtain⟨k,ts2,hk,hp⟩:=PR.bind_ok hp
       obtain⟨hT2,_,rk⟩:=hR _ _ _ _ _ hTr hk
       have rk':RdE 99 [.int .i64 (((qa2 (qap (t::r)):Nat):Int)+1)] r o k ts2:=rk (by omega)
       obtain⟨Ek,y1,y2,y3⟩:=rk'.m3 rfl
       have w1:qbj .i64 (((qa2 (qap (t::r)):Nat):Int)+1)=((qa2 (qap (t::r)):Nat):Int)+1:=qhm (by omega) (by omega)
       by_cases q5:qa2 (qap (t::r))=5
       ·rw[if_pos q5]at hp
        have e5:(((qa2 (qap (t::r)):Nat):Int)==5)=true:=by rw[q5];rfl
        have w5:qbj .i64 (((qa2 (qap (t::r)):Nat):Int)-1)=4:=by rw[q5];rfl
        simp only[Z3,simprocAttr,effs,qep,PExpr.cellsT,qaz,qb7,cb _,d1,d2,s1,s2,e1,e2,w1,y1,y2,qe4,qee]
        rw[qed]
        ·simp only[Z3,simprocAttr,effs,qep,y2,qe4,qee,e5,w5]
         exact .inl ⟨⟨n,4,eBin (qap (t::r)) left k,.full,ts2⟩,_,rfl,⟨hT2,hp⟩,At.of _ (by simp only[ats]<;>rfl) (by simp only[wi,wh,wk]<;>rfl),by simp only[];omega,trivial⟩
        ·kernel_rfl
        ·have z2:=y3 (Blk.box qaz::Blk.box (left.cellsT tk)::H) 2 (by omega) (by simp)
         unfold qaz PExpr.cellsT at z2
         simp only[qak,qcd,qae,qdu,z2,wo,wv,wt,we,wg]
       ·rw[if_neg q5]at hp
        have e5:(((qa2 (qap (t::r)):Nat):Int)==5)=false:=by simp;omega
        simp only[Z3,simprocAttr,effs,qep,PExpr.cellsT,qaz,qb7,cb _,d1,d2,s1,s2,e1,e2,w1,y1,y2,qe4,qee]
        rw[qed]
        ·simp only[Z3,simprocAttr,effs,qep,y2,qe4,qee,e5]
         exact .inl ⟨⟨n,qa2 (qap (t::r)),eBin (qap (t::r)) left k,.full,ts2⟩,_,rfl,⟨hT2,hp⟩,At.of _ (by simp only[ats]<;>rfl) (by simp only[wi,wh,wk]<;>rfl),by simp only[];omega,trivial⟩
        ·kernel_rfl
        ·have z2:=y3 (Blk.box qaz::Blk.box (left.cellsT tk)::H) 2 (by omega) (by simp)
         unfold qaz PExpr.cellsT at z2
         simp only[qak,qcd,qae,qdu,z2,wo,wv,wt,we,wg])
 obtain⟨j,H,d,rfl⟩:=h2.elim
 clear hl
 simp only[Z3,simprocAttr,effs,qep]
 exact qes (ts:=ts') (d:=o) (.inl rfl) rfl rfl (qky e tk') rfl rfl
end Go.Ab
namespace Go.Ab
open Go Go.Ab.Tab
def Grow2 (h:qab) (v:AVal) (es:List (List AVal)) (T:TypeId):Prop:=v= .slice es .full∨∃t,v= .slice es (.own t)∧h[t]? =some (.tok es.length T)
theorem Grow2.set {h:qab} {v:AVal} {es:List (List AVal)} {T:TypeId} {b:Nat} {x y:List AVal} (g:Grow2 h v es T) (hb:h[b]? =some (.box x)):Grow2 (h.set b (.box y)) v es T:=by
 rcases g with g|⟨t,h1,h2⟩
 ·exact .inl g
 ·refine .inr ⟨t,h1,?_⟩
  rw[wu (by rintro rfl;rw[hb]at h2;cases h2)];exact h2
theorem qj5 {P:Program} {t e sz:Nat} (ok:qfn P t e sz) {h:qab} {v:AVal} {es fs:List (List AVal)} (g:Grow2 h v es e) (hl:es.length+fs.length≤qac) (h1:∀c∈es,c.length=sz) (h2:∀c∈fs,c.length=sz) (hne:¬fs=[]):
 ∃v' f,qdi P h t v (.slice fs .full)=some (v',f)∧Grow2 (f.of h) v' (es++fs) e∧Boxes h (f.of h):=by
 rcases g with rfl|⟨p,rfl,hp⟩
 ·refine⟨_,_,qch h ok hl (qck h1) (qck h2) hne,.inr ⟨_,rfl,?_⟩,Boxes.app _ _⟩
  simp[Eff.of]
 ·refine⟨_,_,qcx h ok hl (qck h1) (qck h2) hne hp rfl,.inr ⟨_,rfl,?_⟩,?_⟩
  ·simp only[Eff.of]
   rw[wd (wc.1 hp).1]
   simp
  ·intro k cs hk
   simp only[Eff.of]
   by_cases hkp:p=k
   ·subst hkp;rw[hp]at hk;cases hk
   ·rw[wu hkp];exact hk
theorem strs1 (l:List Str):∀c∈l.map (fun s=>[AVal.str s]),c.length=1:=by
 intro c hc;obtain⟨s,_,rfl⟩:=w7.1 hc;rfl
theorem qsv {k:Int} {sep:Str}:∀(n:Nat) (ts ts':List PTok) (l:List Str),qe2 k sep n ts= .ok l ts'→l.length+ts'.length≤ts.length
 |0,_,_,_,h=>by cases h
 |n+1,ts,ts',l,h=>by
  simp only[qe2]at h
  obtain⟨t,r,rfl,_,h⟩:=qb1 h
  split at h
  ·obtain⟨l1,ts1,h1,h⟩:=PR.bind_ok h
   cases h
   have:=qsv n _ _ _ h1
   rw[List.length_tail]at this
   simp only[wa]
   cases r with
   |nil=>simp[hasS]at*
   |cons a b=>simp only[wa]at*;omega
  ·cases h
   simp only[wa,wj];omega
theorem q1o {k:Int} {sep:Str} (hk6:k≠6):∀(n:Nat) (ts ts':List PTok) (l:List Str),TsOk ts→qe2 k sep n ts= .ok l ts'→TsOk ts'
 |0,_,_,_,_,h=>by cases h
 |n+1,ts,ts',l,hT,h=>by
  simp only[qe2]at h
  obtain⟨t,r,rfl,hs,h⟩:=qb1 h
  have hTr:=hT.tail (by rw[hs];exact hk6)
  split at h
  ·rename_i hh
   obtain⟨l1,ts1,h1,h⟩:=PR.bind_ok h
   cases h
   obtain⟨t2,r2,rfl,hT2,_,_⟩:=hTr.hasS hh
   exact q1o hk6 n _ _ _ hT2 h1
  ·cases h;exact hTr
theorem qoe {H:qab} {x:Blk} (h:H[0]? =some x):H.take 1=[x]:=by
 cases H with
 |nil=>cases h
 |cons a b=>simp at h;simp[h]
structure ListSt where
 n:Nat
 acc:List Str
 v:AVal
 ts:List PTok
theorem qx8 {k:Int} {g:FuncId} (hk6:k≠6) (d:Nat) (hg:∀t r,t.sort=k→qbk C g [.ptr 0 0] [.box (pbox (t::r) d)] (.str t.text) [.box (pbox r d)]) (sep:Str) (hsep:sep≠[]) {n:Nat} {ts ts':List PTok} {l:List Str} (hT:TsOk ts) (h:qe2 k sep n ts= .ok l ts'):
 TsOk ts'∧qbk C 133 [.ptr 0 0,.str sep,.func g [.ptr 0 0] []] [.box (pbox ts d)] (.slice (l.map fun s=>[.str s]) .free) [.box (pbox ts' d)]:=by
 refine⟨q1o hk6 n ts ts' l hT h,?_⟩
 cases n with
 |zero=>cases h
 |succ n=>
  simp only[qe2]at h
  obtain⟨t,rt,rfl,hs,h⟩:=qb1 h
  obtain⟨E,e1,e2⟩:=met (hg t rt hs) rfl (qaa _ _) (qaa _ _) rfl
  have hTr:=hT.tail (by rw[hs];exact hk6)
  have hle:=hTr.le
  refine qa9 rfl Tryz.func133 rfl (by kernel_rfl) (m:=17) rfl ?_;simp only[Z3,simprocAttr,Tryz.f133,qkn,effs,e1,e2]
  generalize hb:qam PP cmp0 C lpC _=f;generalize hl:lpC f _=r
  obtain⟨ex,s',rfl,rfl,tk,h2⟩:=qd0 (α:=ListSt) hl [11,12,13,14,15,16,17,18] (fun a=>[(7,a.v)]) (fun a h=>h[0]? =some (.box (pbox a.ts d))∧Grow2 h a.v (a.acc.map fun s=>[.str s]) 9∧TsOk a.ts∧a.acc.length+a.ts.length≤65538∧(if hasS sep a.ts=true then(qe2 k sep a.n a.ts.tail).bind fun l2 ts2=> .ok (a.acc++l2) ts2 else .ok a.acc a.ts)= .ok l ts') (fun a=>a.n) (fun _=>())
   (fun ts _ ex s=>ex= .exit 0∧∃tk,OutT [11,12,13,14,15,16,17,18] ts [(7,.slice (l.map fun s=>[.str s]) tk)] (fun g=>g[0]? =some (.box (pbox ts' d))) s) ⟨n,[t.text],.slice [[.str t.text]] .full,rt⟩ ⟨rfl,.inl rfl,hTr,by simp only[wa,wj];omega,h⟩ (by simp only[AtT,ats]) (by
    rintro⟨n,acc,v,ts⟩ j G dd ⟨q0,hgr,hTs,hln,hp⟩
    clear hl;subst hb
    simp only at q0 hgr hTs hln hp ⊢
    obtain⟨t,rt,rfl⟩:=hTs.ne
    cases hh:hasS sep (t::rt)
    ·rw[hh]at hp
     simp only[ww,if_false]at hp
     cases hp
     have c1:=qc7 (c:=C) (b:=0) (H:=G) (rest:=[.str sep]) rfl q0 (qaa _ _) (qjw sep hsep t rt d hh) rfl
     simp only[Z3,simprocAttr,effs,qkn,c1]
     obtain⟨tk,hv⟩:∃tk,v= .slice (l.map fun s=>[.str s]) tk:=by
      rcases hgr with h|⟨_,h,_⟩<;>exact⟨_,h⟩
     subst hv
     exact .inr ⟨_,_,rfl,by simp,rfl,tk,by simp only[OutT,AtT,ats],q0⟩
    ·rw[hh]at hp
     simp only[if_true,wfa]at hp
     cases n with
     |zero=>cases hp
     |succ n=>
      obtain⟨l2,ts2,h2,hp⟩:=PR.bind_ok hp
      cases hp
      obtain⟨_,_,hc,hTr,_,_⟩:=hTs.hasS hh
      cases hc
      simp only[qe2]at h2
      obtain⟨t2,r2,rfl,hs2,h2⟩:=qb1 h2
      obtain⟨E1,hE1,hh1⟩:=qd4 qay (b:=0) (H:=G) (rest:=[.str sep]) rfl q0 (qaa _ _) (qaa _ _) (qg5 sep t (t2::r2) d hh) rfl
      have l0:=(wc.1 q0).1
      obtain⟨g1,hg1⟩:∃g1,g1=G.set 0 (.box (pbox (t2::r2) d)):=⟨_,rfl⟩
      rw[←hg1]at hh1
      have p1:g1[0]? =some (.box (pbox (t2::r2) d)):=by rw[hg1,wd l0]
      have gg1:=hgr.set (y:=pbox (t2::r2) d) q0
      rw[←hg1]at gg1
      obtain⟨E2,hE2,hh2⟩:=qd4 qay (b:=0) (H:=g1) (rest:=[]) rfl p1 (qaa _ _) (qaa _ _) (hg t2 r2 hs2) rfl
      obtain⟨g2,hg2⟩:∃g2,g2=g1.set 0 (.box (pbox r2 d)):=⟨_,rfl⟩
      rw[←hg2]at hh2
      have p2:g2[0]? =some (.box (pbox r2 d)):=by rw[hg2,wd (wc.1 p1).1]
      have gg2:=gg1.set (y:=pbox r2 d) p1
      rw[←hg2]at gg2
      have hlen:acc.length+1≤qac:=by
       simp only[wa]at hln
       unfold qac;omega
      obtain⟨v3,E3,ha3,gg3,hB3⟩:=qj5 qgi (fs:=[[.str t2.text]]) gg2 (by simpa using hlen) (strs1 acc) (by intro c hc;simp only[wga,wda,or_false]at hc;subst hc;rfl) (by simp)
      have p3:=hB3 _ _ p2
      simp only[Z3,simprocAttr,effs,qkn,hE1,hh1,hE2,hh2,ha3]
      refine .inl ⟨⟨n,acc++[t2.text],v3,r2⟩,_,rfl,⟨p3,by simpa using gg3,hTr.tail (by rw[hs2];exact hk6),?_,?_⟩,by simp only[AtT,ats],by simp only[];omega,trivial⟩
      ·simp only[w8,wa,wj]at hln ⊢;omega
      ·split at h2
       ·rename_i hh3
        rw[if_pos hh3]
        obtain⟨l3,ts3,h3,h2⟩:=PR.bind_ok h2
        cases h2
        rw[h3]
        simp[PR.bind]
       ·rename_i hh3
        rw[if_neg hh3]
        cases h2
        rfl)
  obtain⟨j,H,dd,q0,rfl⟩:=h2.elim
  clear hl
  simp only[Z3,simprocAttr,effs,qkn]
  exact qcv (.inl rfl) rfl rfl rfl (fun b hb=>by
   obtain rfl:b=0:=wb.1 hb
   exact qem _ _ ts' d _ q0) (qoe q0)
theorem met4 {f:FuncId} {rest:List AVal} {x y:List AVal} {v:AVal} (g:qbk C f (.ptr 0 0::rest) [.box x] v [.box y]) (hr:qad rest=[0]) (px:qad x=[]) (py:qad y=[]) (hv:refs v=[]):
 ∃E:qab→Eff,(∀H,qah C (.box x::H) f (.ptr 0 0::rest)=some (.ret v (E H)))∧(∀H,(E H).of (.box x::H)= .box y::H):=by
 have h:∀H,qnd C (.box x::H) f (.ptr 0 0::rest) v (.box y::H):=by
  intro H
  have ha:qad (.ptr 0 0::rest)=[0,0]:=by simp[qad,refs,hr]
  refine qjc qay [0] (by rw[ha];simp[qbq,px]) (by simp) (by unfold qcz;simp[ha,qdj,px]) (?_:qbk C f _ (subH (.box x::H) [0]) v [.box y]) hv ?_
  ·have e1:subH (.box x::H) [0]=[.box x]:=by simp[subH,renB,qbo px]
   have e2:renL (fun x=>[0].idxOf x) (.ptr 0 0::rest)= .ptr 0 0::rest:=qcy _ (by rw[ha];simp)
   rw[e1,e2];exact g
  ·intro H' k
   apply w9
   intro i
   cases i with
   |zero=>rw[k.inn 0 0 rfl];simp[renB,qbo py]
   |succ i=>
    by_cases hi:i+1<(Blk.box x::H).length
    ·rw[k.out (i+1) hi (by simp)];rfl
    ·have e3:([Blk.box y]:List Blk)[[0].length+(i+1-(Blk.box x::H).length)]? =none:=wm (by simp)
     have e4:(Blk.box y::H)[i+1]? =none:=wm (by simp only[wa]at hi ⊢;omega)
     rw[k.new (i+1) (by omega),e3,e4]
     rfl
 exact⟨fun H=>(h H).choose,fun H=>(h H).choose_spec.1,fun H=>(h H).choose_spec.2⟩
theorem qg6 {m:Nat} {opn cls:Str} {d:Nat} {ts ts':List PTok} {l:List Str} (hT:TsOk ts) (h:qhf m opn cls ts= .ok l ts'):
 TsOk ts'∧qbk C 135 [.ptr 0 0,.str opn,.str cls] [.box (pbox ts d)] (.slice (l.map fun s=>[.str s]) .free) [.box (pbox ts' d)]:=by
 unfold qhf at h
 obtain⟨w1,h⟩:=qa8 h
 obtain⟨t,r,rfl,hTr,_,_⟩:=hT.hasS w1
 obtain⟨l1,ts1,h1,h⟩:=PR.bind_ok h
 obtain⟨hT1,g1⟩:=qx8 (by decide) d (fun t r hs=>qen t r d hs) [44] (by decide) hTr h1
 obtain⟨w2,h⟩:=qa8 h
 obtain⟨t2,r2,rfl,hT2,_,_⟩:=hT1.hasS w2
 cases h
 refine⟨hT2,?_⟩
 obtain⟨E1,a1,a2⟩:=qce _ t r d w1
 obtain⟨E2,b1,b2⟩:=met4 g1 rfl (qaa _ _) (qaa _ _) rfl
 obtain⟨E3,c1,c2⟩:=qce _ t2 r2 d w2
 refine qa9 rfl Tryz.func135 rfl (by kernel_rfl) (m:=18) rfl ?_;simp only[Z3,simprocAttr,Tryz.f135,qwz,effs,a1,a2,b1,b2,c1,c2]
 exact qcv (.inl rfl) rfl rfl rfl (fun b hb=>by
  obtain rfl:b=0:=wb.1 hb
  exact qem _ _ r2 d _ rfl) rfl
end Go.Ab
namespace Go.Ab
open Go Go.Ab.Tab
def LenR (R:Rd):Prop:=∀(o least:Nat) (ts:List PTok) (e:PExpr) (ts':List PTok),R o least ts= .ok e ts'→ts'.length≤ts.length
theorem exprs5 (l:List PExpr):∀c∈l.map PExpr.cells,c.length=5:=by
 intro c hc;obtain⟨s,_,rfl⟩:=w7.1 hc;exact s.len
theorem qy9 {R:Rd} (hR:HypE R) {o:Nat}:∀(n:Nat) (ts ts':List PTok) (l:List PExpr),TsOk ts→qcu R o n ts= .ok l ts'→TsOk ts'
 |0,_,_,_,_,h=>by cases h
 |n+1,ts,ts',l,hT,h=>by
  simp only[qcu]at h
  obtain⟨e,r,he,h⟩:=PR.bind_ok h
  have hTr:=(hR _ _ _ _ _ hT he).1
  split at h
  ·rename_i hh
   obtain⟨l1,ts1,h1,h⟩:=PR.bind_ok h
   cases h
   obtain⟨t2,r2,rfl,hT2,_,_⟩:=hTr.hasS hh
   exact qy9 hR n _ _ _ hT2 h1
  ·cases h;exact hTr
structure ListEt where
 n:Nat
 acc:List PExpr
 v:AVal
 ts:List PTok
theorem qud {R:Rd} (hR:HypE R) (hLen:LenR R) (d:Nat) {n:Nat} {ts ts':List PTok} {l:List PExpr} (hT:TsOk ts) (h:qcu R d n ts= .ok l ts'):
 TsOk ts'∧qbk C 297 [.ptr 0 0,.str [44],.func 50 [.ptr 0 0] []] [.box (pbox ts d)] (.slice (l.map PExpr.cells) .free) [.box (pbox ts' d)]:=by
 refine⟨qy9 hR n ts ts' l hT h,?_⟩
 cases n with
 |zero=>cases h
 |succ n=>
  simp only[qcu]at h
  obtain⟨e0,rt,h0,h⟩:=PR.bind_ok h
  obtain⟨hTr,x0⟩:=qd1 hR hT h0
  obtain⟨E,e1,e2⟩:=x0.m rfl
  have hle:=hTr.le
  refine qa9 rfl Tryz.func297 rfl (by kernel_rfl) (m:=17) rfl ?_;simp only[Z3,simprocAttr,Tryz.f297,qkq,effs,e1,e2]
  generalize hb:qam PP cmp0 C lpC _=f;generalize hl:lpC f _=r
  obtain⟨ex,s',rfl,rfl,tk,h2⟩:=qd0 (α:=ListEt) hl [11,12,13,14,15,16,17,18] (fun a=>[(7,a.v)]) (fun a h=>h[0]? =some (.box (pbox a.ts d))∧Grow2 h a.v (a.acc.map PExpr.cells) 37∧TsOk a.ts∧a.acc.length+a.ts.length≤65538∧(if hasS [44] a.ts=true then(qcu R d a.n a.ts.tail).bind fun l2 ts2=> .ok (a.acc++l2) ts2 else .ok a.acc a.ts)= .ok l ts') (fun a=>a.n) (fun _=>())
   (fun ts _ ex s=>ex= .exit 0∧∃tk,OutT [11,12,13,14,15,16,17,18] ts [(7,.slice (l.map PExpr.cells) tk)] (fun g=>g[0]? =some (.box (pbox ts' d))) s) ⟨n,[e0],.slice [e0.cells] .full,rt⟩ ⟨rfl,.inl rfl,hTr,by simp only[wa,wj];omega,h⟩ (by simp only[AtT,ats]) (by
    rintro⟨n,acc,v,ts⟩ j G dd ⟨q0,hgr,hTs,hln,hp⟩
    clear hl;subst hb
    simp only at q0 hgr hTs hln hp ⊢
    obtain⟨t,rt,rfl⟩:=hTs.ne
    cases hh:hasS [44] (t::rt)
    ·rw[hh]at hp
     simp only[ww,if_false]at hp
     cases hp
     have c1:=qc7 (c:=C) (b:=0) (H:=G) (rest:=[.str [44]]) rfl q0 (qaa _ _) (qjw [44] (by decide) t rt d hh) rfl
     simp only[Z3,simprocAttr,effs,qkq,c1]
     obtain⟨tk,hv⟩:∃tk,v= .slice (l.map PExpr.cells) tk:=by
      rcases hgr with h|⟨_,h,_⟩<;>exact⟨_,h⟩
     subst hv
     exact .inr ⟨_,_,rfl,by simp,rfl,tk,by simp only[OutT,AtT,ats],q0⟩
    ·rw[hh]at hp
     simp only[if_true,wfa]at hp
     cases n with
     |zero=>cases hp
     |succ n=>
      obtain⟨l2,ts2,h2,hp⟩:=PR.bind_ok hp
      cases hp
      obtain⟨_,_,hc,hTr,_,_⟩:=hTs.hasS hh
      cases hc
      simp only[qcu]at h2
      obtain⟨x2,r2,h20,h2⟩:=PR.bind_ok h2
      have hlen2:=hLen _ _ _ _ _ h20
      obtain⟨hT2,y2⟩:=qd1 hR hTr h20
      obtain⟨E1,hE1,hh1⟩:=qd4 qay (b:=0) (H:=G) (rest:=[.str [44]]) rfl q0 (qaa _ _) (qaa _ _) (qg5 [44] t rt d hh) rfl
      have l0:=(wc.1 q0).1
      obtain⟨g1,hg1⟩:∃g1,g1=G.set 0 (.box (pbox rt d)):=⟨_,rfl⟩
      rw[←hg1]at hh1
      have p1:g1[0]? =some (.box (pbox rt d)):=by rw[hg1,wd l0]
      have gg1:=hgr.set (y:=pbox rt d) q0
      rw[←hg1]at gg1
      obtain⟨E2,hE2,hh2⟩:=qd4 qay (b:=0) (H:=g1) (rest:=[]) rfl p1 (qaa _ _) (qaa _ _) y2 (by simp only[refs];exact x2.norefs)
      obtain⟨g2,hg2⟩:∃g2,g2=g1.set 0 (.box (pbox r2 d)):=⟨_,rfl⟩
      rw[←hg2]at hh2
      have p2:g2[0]? =some (.box (pbox r2 d)):=by rw[hg2,wd (wc.1 p1).1]
      have gg2:=gg1.set (y:=pbox r2 d) p1
      rw[←hg2]at gg2
      have hlen:acc.length+1≤qac:=by
       simp only[wa]at hln
       unfold qac;omega
      obtain⟨v3,E3,ha3,gg3,hB3⟩:=qj5 qh9 (fs:=[x2.cells]) gg2 (by simpa using hlen) (exprs5 acc) (by intro c hc;simp only[wga,wda,or_false]at hc;subst hc;exact x2.len) (by simp)
      have p3:=hB3 _ _ p2
      simp only[Z3,simprocAttr,effs,qkq,hE1,hh1,hE2,hh2,ha3]
      refine .inl ⟨⟨n,acc++[x2],v3,r2⟩,_,rfl,⟨p3,by simpa using gg3,hT2,?_,?_⟩,by simp only[AtT,ats],by simp only[];omega,trivial⟩
      ·simp only[w8,wa,wj]at hln ⊢;omega
      ·split at h2
       ·rename_i hh3
        rw[if_pos hh3]
        obtain⟨l3,ts3,h3,h2⟩:=PR.bind_ok h2
        cases h2
        rw[h3]
        simp[PR.bind]
       ·rename_i hh3
        rw[if_neg hh3]
        cases h2
        rfl)
  obtain⟨j,H,dd,q0,rfl⟩:=h2.elim
  clear hl
  simp only[Z3,simprocAttr,effs,qkq]
  exact qcv (.inl rfl) rfl rfl rfl (fun b hb=>by
   obtain rfl:b=0:=wb.1 hb
   exact qem _ _ ts' d _ q0) (qoe q0)
theorem pcall_c {m:Nat} {R:Rd} (hR:HypE R) (hLen:LenR R) {d:Nat} {t:PTok} {r ts':List PTok} {e:PExpr} (hT:TsOk r) (hs:t.sort=1) (hc:(hasS [91] r||hasS [40] r)=true) (h:qi0 m R d t.text r= .ok e ts'):
 TsOk ts'∧RdE 286 [] (t::r) d e ts':=by
 obtain⟨N1,n1,n2⟩:=met (qen t r d hs) rfl (qaa _ _) (qaa _ _) rfl
 unfold qi0 at h
 obtain⟨c,tsc,h1,h⟩:=PR.bind_ok h
 obtain⟨w1,h⟩:=qa8 h
 obtain⟨t1,r1,rfl⟩:=hT.ne
 cases hb:hasS [91] (t1::r1)
 ·rw[hb]at h1 hc
  simp only[ww,if_false]at h1
  cases h1
  obtain⟨_,_,hcc,hTr,_,_⟩:=hT.hasS w1
  cases hcc
  obtain⟨l,tsl,h2,h⟩:=PR.bind_ok h
  obtain⟨hT2,g2⟩:=qud hR hLen d hTr h2
  obtain⟨w2,h⟩:=qa8 h
  obtain⟨t2,r2,rfl,hT3,_,_⟩:=hT2.hasS w2
  cases h
  refine⟨hT3,?_⟩
  obtain⟨E1,a1,a2⟩:=qce _ t1 r1 d w1
  obtain⟨E2,b1,b2⟩:=met4 g2 rfl (qaa _ _) (qaa _ _) rfl
  obtain⟨E3,c1,c2⟩:=qce _ t2 r2 d w2
  have q1:=qht (s:=[91]) (by decide) hb
  have q2:=qhs w1
  unfold RdE
  refine qa9 rfl Tryz.func286 rfl (by kernel_rfl) (m:=35) rfl ?_;simp only[Z3,simprocAttr,Tryz.f286,qkp,effs,n1,n2,qb7,bne,q1,q2,a1,a2,b1,b2,c1,c2]
  exact qes (ts:=r2) (d:=d) (.inl rfl) rfl rfl (mk_c 14 t.text 0 [] l .full .free) rfl rfl
 ·rw[hb]at h1
  simp only[if_true]at h1
  obtain⟨hTc,gn⟩:=qg6 (d:=d) hT h1
  obtain⟨t3,r3,rfl,hTr,_,_⟩:=hTc.hasS w1
  obtain⟨l,tsl,h2,h⟩:=PR.bind_ok h
  obtain⟨hT2,g2⟩:=qud hR hLen d hTr h2
  obtain⟨w2,h⟩:=qa8 h
  obtain⟨t2,r2,rfl,hT3,_,_⟩:=hT2.hasS w2
  cases h
  refine⟨hT3,?_⟩
  obtain⟨E0,m1,m2⟩:=met gn rfl (qaa _ _) (qaa _ _) rfl
  obtain⟨E1,a1,a2⟩:=qce _ t3 r3 d w1
  obtain⟨E2,b1,b2⟩:=met4 g2 rfl (qaa _ _) (qaa _ _) rfl
  obtain⟨E3,c1,c2⟩:=qce _ t2 r2 d w2
  have q1:=qhs hb
  unfold RdE
  refine qa9 rfl Tryz.func286 rfl (by kernel_rfl) (m:=35) rfl ?_;simp only[Z3,simprocAttr,Tryz.f286,qkp,effs,n1,n2,qb7,bne,q1,m1,m2,a1,a2,b1,b2,c1,c2]
  exact qes (ts:=r2) (d:=d) (.inl rfl) rfl rfl (mk_c 14 t.text 0 c l .free .free) rfl rfl
theorem pvar_c {d:Nat} {t:PTok} {r:List PTok} (hT:TsOk r) (hs:t.sort=1) (hc:(hasS [91] r||hasS [40] r)=false):
 RdE 286 [] (t::r) d (eVar t.text) r:=by
 obtain⟨N1,n1,n2⟩:=met (qen t r d hs) rfl (qaa _ _) (qaa _ _) rfl
 obtain⟨t1,r1,rfl⟩:=hT.ne
 simp only[Bool.or_eq_false_iff]at hc
 have q1:=qht (s:=[91]) (by decide) hc.1
 have q2:=qht (s:=[40]) (by decide) hc.2
 unfold RdE
 refine qa9 rfl Tryz.func286 rfl (by kernel_rfl) (m:=35) rfl ?_;simp only[Z3,simprocAttr,Tryz.f286,qkp,effs,n1,n2,qb7,bne,q1,q2]
 exact qes (ts:=t1::r1) (d:=d) (.inl rfl) rfl rfl (mk_c 4 t.text 0 [] [] .full .full) rfl rfl
end Go.Ab
