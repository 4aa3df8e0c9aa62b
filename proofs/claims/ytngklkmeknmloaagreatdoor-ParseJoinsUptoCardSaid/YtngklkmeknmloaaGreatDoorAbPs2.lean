/- The parser: operands. -/
import Derived.Test.YtngklkmeknmloaaGreatDoorAbPs
import Derived.Test.YtngklkmeknmloaaGreatDoorAbTxt
import Derived.Test.YtngklkmeknmloaaGreatDoorAbInv
set_option linter.unusedSimpArgs false
set_option linter.unusedVariables false
set_option maxRecDepth 100000
set_option maxHeartbeats 4000000
open Go.Proofs
open List renaming length_cons→wa,getElem?_eq_some_iff→wc,getElem?_cons_succ→wd,getElem?_cons_zero→we,getElem?_set_self→wf,append_assoc→wg,cons_append→wi,length_nil→wj,nil_append→wk,getElem?_eq_none→wu,getElem?_set_ne→wv,mem_map→ww,length_append→wz,not_mem_nil→w7,tail_cons→w8,mem_cons→w9
open Bool renaming eq_false_iff→wb,not_false→wm,and_true→wo,or_true→wq,false_eq_true→wt
open Nat renaming lt_one_iff→wh
open Int renaming natCast_zero→w6
namespace Go.Ab
open Go Go.Ab.Tab
theorem bind_c (s:Str):Ret C 152 [.str s] (.int .i64 (qbc s)):=by
 refine Ret.mk rfl rfl ?_
 unfold qbc
 cases h1:(s==[45,62])with
 |true=>rw[if_pos (beq_iff_eq.1 h1)];rw[C_fn rfl Tryz.func152 rfl (by kernel_rfl) (m:=23) rfl];simp only[Z3,Nat.reduceAdd,Nat.reduceBEq,Int.reduceBEq,Int.reduceBNe,Int.reduceLT,Int.reduceLE,Tryz.f152,qgy,h1];rfl
 |false=>
  rw[if_neg (by simpa using h1)]
  cases h2:(s==[102,98,121])with
  |true=>rw[if_pos (beq_iff_eq.1 h2)];rw[C_fn rfl Tryz.func152 rfl (by kernel_rfl) (m:=23) rfl];simp only[Z3,Nat.reduceAdd,Nat.reduceBEq,Int.reduceBEq,Int.reduceBNe,Int.reduceLT,Int.reduceLE,Tryz.f152,qgy,h1,h2];rfl
  |false=>
   rw[if_neg (by simpa using h2)]
   cases h3:(s==[111,114])with
   |true=>rw[if_pos (beq_iff_eq.1 h3)];rw[C_fn rfl Tryz.func152 rfl (by kernel_rfl) (m:=23) rfl];simp only[Z3,Nat.reduceAdd,Nat.reduceBEq,Int.reduceBEq,Int.reduceBNe,Int.reduceLT,Int.reduceLE,Tryz.f152,qgy,h1,h2,h3];rfl
   |false=>
    rw[if_neg (by simpa using h3)]
    cases h4:(s==[97,110,100])with
    |true=>rw[if_pos (beq_iff_eq.1 h4)];rw[C_fn rfl Tryz.func152 rfl (by kernel_rfl) (m:=23) rfl];simp only[Z3,Nat.reduceAdd,Nat.reduceBEq,Int.reduceBEq,Int.reduceBNe,Int.reduceLT,Int.reduceLE,Tryz.f152,qgy,h1,h2,h3,h4];rfl
    |false=>
     rw[if_neg (by simpa using h4)]
     cases h5:(s==[60])with
     |true=>rw[if_pos (beq_iff_eq.1 h5)];rw[C_fn rfl Tryz.func152 rfl (by kernel_rfl) (m:=23) rfl];simp only[Z3,Nat.reduceAdd,Nat.reduceBEq,Int.reduceBEq,Int.reduceBNe,Int.reduceLT,Int.reduceLE,Tryz.f152,qgy,h1,h2,h3,h4,h5];rfl
     |false=>
      rw[if_neg (by simpa using h5)]
      cases h6:(s==[60,61])with
      |true=>rw[if_pos (beq_iff_eq.1 h6)];rw[C_fn rfl Tryz.func152 rfl (by kernel_rfl) (m:=23) rfl];simp only[Z3,Nat.reduceAdd,Nat.reduceBEq,Int.reduceBEq,Int.reduceBNe,Int.reduceLT,Int.reduceLE,Tryz.f152,qgy,h1,h2,h3,h4,h5,h6];rfl
      |false=>
       rw[if_neg (by simpa using h6)]
       cases h7:(s==[61])with
       |true=>rw[if_pos (beq_iff_eq.1 h7)];rw[C_fn rfl Tryz.func152 rfl (by kernel_rfl) (m:=23) rfl];simp only[Z3,Nat.reduceAdd,Nat.reduceBEq,Int.reduceBEq,Int.reduceBNe,Int.reduceLT,Int.reduceLE,Tryz.f152,qgy,h1,h2,h3,h4,h5,h6,h7];rfl
       |false=>
        rw[if_neg (by simpa using h7)]
        cases h8:(s==[60,62])with
        |true=>rw[if_pos (beq_iff_eq.1 h8)];rw[C_fn rfl Tryz.func152 rfl (by kernel_rfl) (m:=23) rfl];simp only[Z3,Nat.reduceAdd,Nat.reduceBEq,Int.reduceBEq,Int.reduceBNe,Int.reduceLT,Int.reduceLE,Tryz.f152,qgy,h1,h2,h3,h4,h5,h6,h7,h8];rfl
        |false=>
         rw[if_neg (by simpa using h8)]
         cases h9:(s==[43])with
         |true=>rw[if_pos (beq_iff_eq.1 h9)];rw[C_fn rfl Tryz.func152 rfl (by kernel_rfl) (m:=23) rfl];simp only[Z3,Nat.reduceAdd,Nat.reduceBEq,Int.reduceBEq,Int.reduceBNe,Int.reduceLT,Int.reduceLE,Tryz.f152,qgy,h1,h2,h3,h4,h5,h6,h7,h8,h9];rfl
         |false=>
          rw[if_neg (by simpa using h9)]
          cases h10:(s==[45])with
          |true=>rw[if_pos (beq_iff_eq.1 h10)];rw[C_fn rfl Tryz.func152 rfl (by kernel_rfl) (m:=23) rfl];simp only[Z3,Nat.reduceAdd,Nat.reduceBEq,Int.reduceBEq,Int.reduceBNe,Int.reduceLT,Int.reduceLE,Tryz.f152,qgy,h1,h2,h3,h4,h5,h6,h7,h8,h9,h10];rfl
          |false=>
           rw[if_neg (by simpa using h10)]
           cases h11:(s==[42])with
           |true=>rw[if_pos (beq_iff_eq.1 h11)];rw[C_fn rfl Tryz.func152 rfl (by kernel_rfl) (m:=23) rfl];simp only[Z3,Nat.reduceAdd,Nat.reduceBEq,Int.reduceBEq,Int.reduceBNe,Int.reduceLT,Int.reduceLE,Tryz.f152,qgy,h1,h2,h3,h4,h5,h6,h7,h8,h9,h10,h11];rfl
           |false=>
            rw[if_neg (by simpa using h11)]
            cases h12:(s==[47])with
            |true=>rw[if_pos (beq_iff_eq.1 h12)];rw[C_fn rfl Tryz.func152 rfl (by kernel_rfl) (m:=23) rfl];simp only[Z3,Nat.reduceAdd,Nat.reduceBEq,Int.reduceBEq,Int.reduceBNe,Int.reduceLT,Int.reduceLE,Tryz.f152,qgy,h1,h2,h3,h4,h5,h6,h7,h8,h9,h10,h11,h12];rfl
            |false=>
             rw[if_neg (by simpa using h12)]
             cases h13:(s==[37])with
             |true=>rw[if_pos (beq_iff_eq.1 h13)];rw[C_fn rfl Tryz.func152 rfl (by kernel_rfl) (m:=23) rfl];simp only[Z3,Nat.reduceAdd,Nat.reduceBEq,Int.reduceBEq,Int.reduceBNe,Int.reduceLT,Int.reduceLE,Tryz.f152,qgy,h1,h2,h3,h4,h5,h6,h7,h8,h9,h10,h11,h12,h13];rfl
             |false=>
              rw[if_neg (by simpa using h13)]
              rw[C_fn rfl Tryz.func152 rfl (by kernel_rfl) (m:=23) rfl];simp only[Z3,Nat.reduceAdd,Nat.reduceBEq,Int.reduceBEq,Int.reduceBNe,Int.reduceLT,Int.reduceLE,Tryz.f152,qgy,h1,h2,h3,h4,h5,h6,h7,h8,h9,h10,h11,h12,h13];rfl
theorem qyt (op:Int) (es:List PExpr) (hl:es.length≤qac):Ret C 153 [.int .i64 op,.slice (es.map PExpr.cells) .full] (.agg (PExpr.mk op [] 0 [] es).cells):=by
 refine Ret.mk rfl rfl ?_
 rw[C_fn rfl Tryz.func153 rfl (by kernel_rfl) (m:=6) rfl];simp only[Z3,Nat.reduceAdd,Nat.reduceBEq,Int.reduceBEq,Int.reduceBNe,Int.reduceLT,Int.reduceLE,Tryz.f153,fx_153]
 exact qfi (by simp[Eff.dirt]) rfl (by rw[PExpr.cells_eq];rfl)
end Go.Ab
namespace Go.Ab
open Go Go.Ab.Tab
def qax:List AVal:=[.int .i64 0,.str [],.int .i64 0,.slice [] .full,.slice [] .full]
def kidsV (n:Nat) (us:List AVal):Option OR:=
 bnd (qc6 (fun i=>some (i*5,5)) (List.replicate n qax).flatten (us.zipIdx.map fun x=>(x.2,x.1))) fun cs=>bnd (qe3 (chop 5 n cs)) fun es=>some (.val (.slice es .full) .same)
theorem kidsV_3 (a b c:PExpr):kidsV 3 [.agg a.cells,.agg b.cells,.agg c.cells]=some (.val (.slice [a.cells,b.cells,c.cells] .full) .same):=by
 rw[a.cells_eq,b.cells_eq,c.cells_eq];rfl
section
variable {cmp:List TypeId} {call:Call} {dst:Option Tmp} {ty:TypeId} {pos:String} {after:Array Edge} {gd:Option (Nat×Bool)} {ts:List AVal} {h:qab}
theorem qgd (o0 o1:Operand):opA PP cmp call ⟨dst,.buildSlice 35 2 #[(0,o0),(1,o1)],ty,pos,after,gd⟩ ts h=bnd (qbh ts [o0,o1]) (kidsV 2):=by
 rw[qlu qie cmp call dst ty pos after gd ts h 2 _ (by decide),qb4]
 simp only[qb2,qbh]
 cases qae o0 ts with
 |none=>rfl
 |some x=>cases qae o1 ts<;>rfl
theorem bs35_3 (o0 o1 o2:Operand):opA PP cmp call ⟨dst,.buildSlice 35 3 #[(0,o0),(1,o1),(2,o2)],ty,pos,after,gd⟩ ts h=bnd (qbh ts [o0,o1,o2]) (kidsV 3):=by
 rw[qlu qie cmp call dst ty pos after gd ts h 3 _ (by decide),qb4]
 simp only[qb2,qbh]
 cases qae o0 ts with
 |none=>rfl
 |some x=>cases qae o1 ts with
  |none=>rfl
  |some y=>cases qae o2 ts<;>rfl
end
theorem PR.bind_ok {α β:Type} {x:PR α} {k:α→List PTok→PR β} {b:β} {ts:List PTok} (h:x.bind k= .ok b ts):∃a ts1,x= .ok a ts1∧k a ts1= .ok b ts:=by
 cases x with
 |ok a ts1=>exact⟨a,ts1,rfl,h⟩
 |bad e t=>cases h
 |out=>cases h
theorem qa5 {β:Type} {s:Str} {ts ts':List PTok} {k:List PTok→PR β} {b:β} (h:qbe s ts k= .ok b ts'):hasS s ts=true∧k ts.tail= .ok b ts':=by
 unfold qbe at h
 split at h
 ·exact⟨‹_›,h⟩
 ·cases h
theorem qbz {β:Type} {n:Int} {ts ts':List PTok} {k:Str→List PTok→PR β} {b:β} (h:qdf n ts k= .ok b ts'):∃t r,ts=t::r∧t.sort=n∧k t.text r= .ok b ts':=by
 unfold qdf at h
 split at h
 ·rename_i t r
  split at h
  ·rename_i hs;exact⟨t,r,rfl,by simpa using hs,h⟩
  ·cases h
 ·cases h
theorem qg2 {s:Str} {t:PTok} {r:List PTok} (h:hasS s (t::r)=true):(qau (t::r)==s)=true:=by rw[qur h];simp
theorem qg3 {s:Str} {t:PTok} {r:List PTok} (hs:s≠[]) (h:hasS s (t::r)=false):(qau (t::r)==s)=false:=by
 have:=sign_ne hs h;simpa[bne]using this
theorem qbr (s:Str) (t:PTok) (r:List PTok) (d:Nat) (h:hasS s (t::r)=true):∃E:qab→Eff,(∀H,qai C (.box (pbox (t::r) d)::H) 78 [.ptr 0 0,.slice [[.str s]] .full]=some (.ret (.tuple []) (E H)))∧∀H,(E H).of (.box (pbox (t::r) d)::H)= .box (pbox r d)::H:=
 met (qhg s t r d h) rfl (qaa _ _) (qaa _ _) rfl
theorem wordM (k:Int) (t:PTok) (r:List PTok) (d:Nat) (h:t.sort=k):∃E:qab→Eff,(∀H,qai C (.box (pbox (t::r) d)::H) 197 [.ptr 0 0,.int .i64 k]=some (.ret (.str t.text) (E H)))∧∀H,(E H).of (.box (pbox (t::r) d)::H)= .box (pbox r d)::H:=
 met (word_c k t r d h) rfl (qaa _ _) (qaa _ _) rfl
theorem qdy (t:PTok) (r:List PTok) (d:Nat) (h:t.sort=1):qbi C 132 [.ptr 0 0] [.box (pbox (t::r) d)] (.str t.text) [.box (pbox r d)]:=by
 obtain⟨E,e1,e2⟩:=wordM 1 t r d h
 refine qa6 rfl Tryz.func132 rfl (by kernel_rfl) (m:=4) rfl ?_;simp only[Z3,simprocAttr,Tryz.f132,fx_132,effs,e1,e2]
 exact qcy (.inl rfl) rfl rfl rfl (fun b hb=>by
  obtain rfl:b=0:=wh.1 hb
  exact qeu _ _ r d _ rfl) rfl
theorem qfp (t:PTok) (r:List PTok) (d:Nat) (h:t.sort=2):qbi C 134 [.ptr 0 0] [.box (pbox (t::r) d)] (.str t.text) [.box (pbox r d)]:=by
 obtain⟨E,e1,e2⟩:=wordM 2 t r d h
 refine qa6 rfl Tryz.func134 rfl (by kernel_rfl) (m:=4) rfl ?_;simp only[Z3,simprocAttr,Tryz.f134,fx_134,effs,e1,e2]
 exact qcy (.inl rfl) rfl rfl rfl (fun b hb=>by
  obtain rfl:b=0:=wh.1 hb
  exact qeu _ _ r d _ rfl) rfl
def RdE (f:FuncId) (rest:List AVal) (ts:List PTok) (d:Nat) (e:PExpr) (ts':List PTok):Prop:=qbi C f (.ptr 0 0::rest) [.box (pbox ts d)] (.agg e.cells) [.box (pbox ts' d)]
theorem RdE.m {f:FuncId} {rest:List AVal} {ts ts':List PTok} {d:Nat} {e:PExpr} (h:RdE f rest ts d e ts') (hr:qad rest=[]):
 ∃E:qab→Eff,(∀H,qai C (.box (pbox ts d)::H) f (.ptr 0 0::rest)=some (.ret (.agg e.cells) (E H)))∧∀H,(E H).of (.box (pbox ts d)::H)= .box (pbox ts' d)::H:=
 met h hr (qaa _ _) (qaa _ _) (by simp only[refs];exact e.norefs)
theorem fin_e {n:Nat} {rs:List ResultVar} {h1:qab} {s:St} {ex:AEx} {cs:List AVal} {e:PExpr} (hex:ex= .ret∨ex= .normal) (hr:resA PP rs s=some [.agg cs]) (hv:cs.map qbj=e.cells) (hs:∀b,b<n→qih n s.heap b) (hh:s.heap.take n=h1):finE PP n rs (.agg e.cells) h1 (some (ex,s)):=
 qcy hex hr (by show AVal.agg (cs.map qbj)=_;rw[hv]) (by simp only[lowA,refs,e.norefs];rfl) hs hh
theorem res_e {s:St} {k b:Nat} {cs:List AVal} (h1:s.tmps[k]? =some (.ptr b 0)) (h2:s.heap[b]? =some (.box cs)) (h3:cs.length=5):resA PP [.cell k 37] s=some [.agg cs]:=by
 simp only[resA,h1,qfe,h2,qek,qcl,qce,List.drop_zero]
 rw[List.take_of_length_le (by omega),if_pos h3]
theorem qe1 {k b:Nat} {h1:qab} {s:St} {ex:AEx} {cs:List AVal} {e:PExpr} {ts:List PTok} {d:Nat} (hex:ex= .ret∨ex= .normal) (g1:s.tmps[k]? =some (.ptr b 0)) (g2:s.heap[b]? =some (.box cs)) (hv:cs.map qbj=e.cells)
 (hb:s.heap[0]? =some (.box (pbox ts d))) (hh:s.heap.take 1=h1):finE PP 1 [.cell k 37] (.agg e.cells) h1 (some (ex,s)):=
 fin_e hex (res_e g1 g2 (by have:=congrArg List.length hv;rw[List.length_map]at this;rw[this,e.len])) hv (fun b hb'=>by
  obtain rfl:b=0:=wh.1 hb'
  exact qeu _ _ ts d _ hb) hh
theorem qh9 (e:PExpr):e.cells.map qbj=e.cells:=by rw[e.cells_eq];rfl
theorem stays1 {H:qab} {ts:List PTok} {d:Nat} (h:H[0]? =some (.box (pbox ts d))):∀b,b<1→qih 1 H b:=fun b hb=>by
 obtain rfl:b=0:=wh.1 hb
 exact qeu _ _ ts d _ h
def HypE (R:Rd):Prop:=∀(o least:Nat) (ts:List PTok) (e:PExpr) (ts':List PTok),TsOk ts→R o least ts= .ok e ts'→TsOk ts'∧(least=0→RdE 151 [] ts o e ts')∧(0<least→RdE 99 [.int .i64 least] ts o e ts')
theorem qds {R:Rd} (hR:HypE R) {o:Nat} {ts ts':List PTok} {e:PExpr} (hT:TsOk ts) (h:R o 1 ts= .ok e ts'):TsOk ts'∧RdE 50 [] ts o e ts':=by
 obtain⟨h1,_,h3⟩:=hR o 1 ts e ts' hT h
 have h3':RdE 99 [.int .i64 1] ts o e ts':=h3 (by omega)
 obtain⟨E,e1,e2⟩:=h3'.m rfl
 refine⟨h1,?_⟩
 unfold RdE
 refine qa6 rfl Tryz.func50 rfl (by kernel_rfl) (m:=4) rfl ?_;simp only[Z3,simprocAttr,Tryz.f50,fx_50,effs,e1,e2]
 exact qe1 (ts:=ts') (d:=o) (.inl rfl) rfl rfl (qh9 e) rfl rfl
end Go.Ab
namespace Go.Ab
open Go Go.Ab.Tab
theorem met3 {f:FuncId} {rest:List AVal} {x y:List AVal} {v:AVal} (g:qbi C f (.ptr 0 0::rest) [.box x] v [.box y]) (hr:qad rest=[]) (px:qad x=[]) (py:qad y=[]) (hv:refs v=[]):
 ∃E:qab→Eff,(∀H,qai C (.box x::H) f (.ptr 0 0::rest)=some (.ret v (E H)))∧(∀H,(E H).of (.box x::H)= .box y::H)∧∀H b,0<b→b<H.length+1→(E H).dirt.contains b=false:=by
 obtain⟨e,he,hof⟩:=id g
 have h:∀H,qai C (.box x::H) f (.ptr 0 0::rest)=some (.ret v (qge (.box x::H) [0] e)):=by
  intro H
  have ha:qad (.ptr 0 0::rest)=[0]:=by simp[qad,refs,hr]
  unfold qai
  have hidx:qbv (.box x::H) 256 (qad (.ptr 0 0::rest)) []=[0]:=by rw[ha];simp[qbv,px]
  have e1:subH (.box x::H) [0]=[.box x]:=by simp[subH,renB,qbs px]
  have e2:renL (fun x=>[0].idxOf x) (.ptr 0 0::rest)= .ptr 0 0::rest:=by
   simp only[renL,ren,qbs hr];simp
  simp only[hidx]
  rw[if_pos (by unfold qc2;simp[ha,qdq,px]),e1,e2,he]
  simp only
  rw[qfc v (by rw[hv];simp)]
 refine⟨_,h,fun H=> ?_,fun H b h1 h2=> ?_⟩
 ·obtain⟨E,hE,hh⟩:=qed qaw (b:=0) (H:= .box x::H) hr rfl px py g hv
  rw[h H]at hE
  cases hE
  exact hh
 ·cases e with
  |same=>rfl
  |heap h' d=>
   simp only[qge,Eff.dirt,List.contains_eq_mem,decide_eq_false_iff_not,ww,not_exists,not_and]
   intro i _ hi
   unfold qe9 at hi
   simp only[wa,wj]at hi
   split at hi
   ·have:i=0:=by omega
    subst this
    simp at hi
    omega
   ·omega
theorem RdE.m3 {f:FuncId} {rest:List AVal} {ts ts':List PTok} {d:Nat} {e:PExpr} (h:RdE f rest ts d e ts') (hr:qad rest=[]):
 ∃E:qab→Eff,(∀H,qai C (.box (pbox ts d)::H) f (.ptr 0 0::rest)=some (.ret (.agg e.cells) (E H)))∧(∀H,(E H).of (.box (pbox ts d)::H)= .box (pbox ts' d)::H)∧∀H b,0<b→b<H.length+1→(E H).dirt.contains b=false:=
 met3 h hr (qaa _ _) (qaa _ _) (by simp only[refs];exact e.norefs)
theorem node1 (op:Int) (k:PExpr):Ret C 153 [.int .i64 op,.slice [k.cells] .full] (.agg (PExpr.mk op [] 0 [] [k]).cells):=qyt op [k] (by simp[qac])
theorem qmc (op:Int) (k l:PExpr):Ret C 153 [.int .i64 op,.slice [k.cells,l.cells] .full] (.agg (PExpr.mk op [] 0 [] [k,l]).cells):=qyt op [k,l] (by simp[qac])
theorem node3 (op:Int) (k l m:PExpr):Ret C 153 [.int .i64 op,.slice [k.cells,l.cells,m.cells] .full] (.agg (PExpr.mk op [] 0 [] [k,l,m]).cells):=qyt op [k,l,m] (by simp[qac])
theorem mk_c (op:Int) (name:Str) (n:Int) (cons:List Str) (kids:List PExpr) (tk tk':Tk):[AVal.int .i64 op,.str name,.int .i64 n,.slice (cons.map fun s=>[.str s]) tk,.slice (kids.map PExpr.cells) tk'].map qbj=(PExpr.mk op name n cons kids).cells:=by
 rw[PExpr.cells_eq];rfl
theorem prefix_c {m:Nat} {R:Rd} (hR:HypE R) {d:Nat} {ts ts':List PTok} {e:PExpr} (hT:TsOk ts) (hS:qd2 m R d ts= .ok e ts'→TsOk ts'∧RdE 247 [] ts d e ts') (h:qef m R d ts= .ok e ts'):
 TsOk ts'∧RdE 213 [] ts d e ts':=by
 unfold qef at h
 unfold RdE
 obtain⟨t,r,rfl⟩:=hT.ne
 by_cases h1:hasS [110,111,116] (t::r)=true
 ·rw[if_pos h1]at h
  obtain⟨_,_,hc,hTr,_,_⟩:=hT.hasS h1
  cases hc
  obtain⟨k,ts1,hk,hf⟩:=PR.bind_ok h
  cases hf
  obtain⟨hT',hu,_⟩:=hR _ _ _ _ _ hTr hk
  refine⟨hT',?_⟩
  obtain⟨E,e1,e2⟩:=qk4 t r d
  obtain⟨E',u1,u2⟩:=(hu rfl).m rfl
  have q1:=qg2 h1
  have hs:=qur h1
  refine qa6 rfl Tryz.func213 rfl (by kernel_rfl) (m:=48) rfl ?_;simp only[Z3,simprocAttr,Tryz.f213,qga,effs,qbb,q1,e1,e2,u1,u2]
  exact qe1 (ts:=ts') (d:=d) (.inl rfl) rfl rfl (by rw[hs];exact mk_c 5 _ 0 [] [k] .full .full) rfl rfl
 have b1:=wb.2 h1
 rw[if_neg h1]at h
 have q1:=qg3 (s:=[110,111,116]) (by decide) b1
 by_cases h2:hasS [45] (t::r)=true
 ·rw[if_pos h2]at h
  obtain⟨_,_,hc,hTr,_,_⟩:=hT.hasS h2
  cases hc
  obtain⟨k,ts1,hk,hf⟩:=PR.bind_ok h
  cases hf
  obtain⟨hT',hu,_⟩:=hR _ _ _ _ _ hTr hk
  refine⟨hT',?_⟩
  obtain⟨E,e1,e2⟩:=qk4 t r d
  obtain⟨E',u1,u2⟩:=(hu rfl).m rfl
  have q2:=qg2 h2
  have hs:=qur h2
  refine qa6 rfl Tryz.func213 rfl (by kernel_rfl) (m:=48) rfl ?_;simp only[Z3,simprocAttr,Tryz.f213,qga,effs,qbb,q1,q2,e1,e2,u1,u2]
  exact qe1 (ts:=ts') (d:=d) (.inl rfl) rfl rfl (by rw[hs];exact mk_c 5 _ 0 [] [k] .full .full) rfl rfl
 have b2:=wb.2 h2
 rw[if_neg h2]at h
 have q2:=qg3 (s:=[45]) (by decide) b2
 by_cases h3:hasS [112,114,101] (t::r)=true
 ·rw[if_pos h3]at h
  obtain⟨_,_,hc,hTr,_,_⟩:=hT.hasS h3
  cases hc
  obtain⟨k,ts1,hk,hf⟩:=PR.bind_ok h
  cases hf
  obtain⟨hT',hu,_⟩:=hR _ _ _ _ _ hTr hk
  refine⟨hT',?_⟩
  obtain⟨E,e1,e2⟩:=qk4 t r d
  obtain⟨E',u1,u2⟩:=(hu rfl).m rfl
  have q3:=qg2 h3
  refine qa6 rfl Tryz.func213 rfl (by kernel_rfl) (m:=48) rfl ?_;simp only[Z3,simprocAttr,Tryz.f213,qga,effs,qbb,q1,q2,q3,e1,e2,u1,u2,node1 _ _ _]
  exact qe1 (ts:=ts') (d:=d) (.inl rfl) rfl rfl (qh9 _) rfl rfl
 have b3:=wb.2 h3
 rw[if_neg h3]at h
 have q3:=qg3 (s:=[112,114,101]) (by decide) b3
 by_cases h4:hasS [105,102] (t::r)=true
 ·rw[if_pos h4]at h
  obtain⟨_,_,hc,hTr,_,_⟩:=hT.hasS h4
  cases hc
  obtain⟨a,ts1,ha,h⟩:=PR.bind_ok h
  obtain⟨hT1,ra⟩:=qds hR hTr ha
  obtain⟨w1,h⟩:=qa5 h
  obtain⟨t1,r1,hc,hT1',_,_⟩:=hT1.hasS w1
  subst hc
  obtain⟨b,ts2,hb,h⟩:=PR.bind_ok h
  obtain⟨hT2,rb⟩:=qds hR hT1' hb
  obtain⟨w2,h⟩:=qa5 h
  obtain⟨t2,r2,hc,hT2',_,_⟩:=hT2.hasS w2
  subst hc
  obtain⟨c,ts3,hc,h⟩:=PR.bind_ok h
  obtain⟨hT3,rc⟩:=qds hR hT2' hc
  cases h
  refine⟨hT3,?_⟩
  obtain⟨E,e1,e2⟩:=qk4 t r d
  obtain⟨Ea,a1,a2⟩:=ra.m rfl
  obtain⟨Ew,v1,v2⟩:=qbr _ t1 r1 d w1
  obtain⟨Eb,c1,c2⟩:=rb.m rfl
  obtain⟨Ex,x1,x2⟩:=qbr _ t2 r2 d w2
  obtain⟨Ec,y1,y2,y3⟩:=rc.m3 rfl
  have q4:=qg2 h4
  refine qa6 rfl Tryz.func213 rfl (by kernel_rfl) (m:=48) rfl ?_;simp only[Z3,simprocAttr,Tryz.f213,qga,effs,qbb,q1,q2,q3,q4,e1,e2,a1,a2,v1,v2,c1,c2,x1,x2,y1,y2,bs35_3,kidsV_3,node3 _ _ _ _ _]
  rw[qcr]
  ·simp only[Z3,simprocAttr,effs,qga,bs35_3,kidsV_3,node3 _ _ _ _ _,y2]
   exact qe1 (ts:=ts') (d:=d) (.inl rfl) rfl rfl (qh9 _) rfl rfl
  ·kernel_rfl
  ·have z2:=y3 [Blk.box qax,Blk.box a.cells,Blk.box b.cells] 2 (by omega) (by simp)
   have z3:=y3 [Blk.box qax,Blk.box a.cells,Blk.box b.cells] 3 (by omega) (by simp)
   unfold qax at z2 z3
   simp only[qaj,qbx,qae,qcp,z2,z3,wm,wq,wo,wd,we]
 have b4:=wb.2 h4
 rw[if_neg h4]at h
 have q4:=qg3 (s:=[105,102]) (by decide) b4
 obtain⟨hT',rs⟩:=hS h
 refine⟨hT',?_⟩
 obtain⟨E',u1,u2⟩:=rs.m rfl
 refine qa6 rfl Tryz.func213 rfl (by kernel_rfl) (m:=48) rfl ?_;simp only[Z3,simprocAttr,Tryz.f213,qga,effs,qbb,q1,q2,q3,q4,u1,u2]
 exact qe1 (ts:=ts') (d:=d) (.inl rfl) rfl rfl (qh9 _) rfl rfl
end Go.Ab
namespace Go.Ab
open Go Go.Ab.Tab
def PExpr.cellsT (e:PExpr) (t:Tk):List AVal:=[.int .i64 e.op,.str e.name,.int .i64 e.n,.slice (e.cons.map fun s=>[.str s]) t,.slice (e.kids.map PExpr.cells) t]
theorem qu9 (e:PExpr):e.cells=e.cellsT .free:=by rw[e.cells_eq];rfl
theorem qk5 (e:PExpr) (t:Tk):(e.cellsT t).map qbj=e.cells:=by rw[e.cells_eq];rfl
theorem qen (a b:PExpr) (t:Tk):kidsV 2 [.agg [.int .i64 a.op,.str a.name,.int .i64 a.n,.slice (a.cons.map fun s=>[.str s]) t,.slice (a.kids.map PExpr.cells) t],.agg b.cells]=some (.val (.slice [a.cells,b.cells] .full) .same):=by
 rw[a.cells_eq,b.cells_eq];rfl
theorem qhh {c:Prop} [Decidable c] {a b k:Nat} (h1:a≤k) (h2:b≤k):(if c then a else b)≤k:=by split<;>assumption
theorem bind_le (s:Str):qbc s≤7:=by
 unfold qbc
 refine qhh (by decide) ?_
 refine qhh (by decide) ?_
 refine qhh (by decide) ?_
 refine qhh (by decide) ?_
 refine qhh (by decide) ?_
 refine qhh (by decide) ?_
 refine qhh (by decide) ?_
 refine qhh (by decide) ?_
 refine qhh (by decide) ?_
 refine qhh (by decide) ?_
 refine qhh (by decide) ?_
 refine qhh (by decide) ?_
 exact qhh (by decide) (by decide)
theorem qtf {t:PTok} {r:List PTok} (h:qbc (qau (t::r))≠0):t.sort≠6:=by
 intro h6
 apply h
 simp only[qau,h6]
 rfl
theorem qv4 {R:Rd} (hR:HypE R) {o least:Nat} (hl:0<least) {e:PExpr} {ts':List PTok}:∀(n most:Nat) (left:PExpr) (ts:List PTok),TsOk ts→qez R o least n most left ts= .ok e ts'→TsOk ts'
 |0,_,_,_,_,h=>by cases h
 |n+1,most,left,ts,hT,h=>by
  obtain⟨t,r,rfl⟩:=hT.ne
  simp only[qez]at h
  split at h
  ·cases h;exact hT
  ·rename_i hb
   have hne:qbc (qau (t::r))≠0:=by omega
   have hTr:TsOk r:=hT.tail (qtf hne)
   split at h
   ·obtain⟨k,ts1,hk,h⟩:=PR.bind_ok h
    cases h
    exact(hR _ _ _ _ _ hTr hk).1
   ·split at h
    ·obtain⟨k,ts1,hk,h⟩:=PR.bind_ok h
     exact qv4 hR hl n _ _ _ (hR _ _ _ _ _ hTr hk).1 h
    ·obtain⟨k,ts1,hk,h⟩:=PR.bind_ok h
     exact qv4 hR hl n _ _ _ (hR _ _ _ _ _ hTr hk).1 h
theorem unary_c {o:Nat} {ts ts':List PTok} {e:PExpr} (ho:o<100) (hp:RdE 213 [] ts (o+1) e ts'):RdE 151 [] ts o e ts':=by
 obtain⟨E,u1,u2⟩:=hp.m rfl
 have v1:∀H,qai C (.box [.slice (ts.map PTok.cells) .free,.int .i64 ((o:Int)+1)]::H) 213 [.ptr 0 0]=some (.ret (.agg e.cells) (E H)):=u1
 have v2:∀H,(E H).of (.box [.slice (ts.map PTok.cells) .free,.int .i64 ((o:Int)+1)]::H)= .box [.slice (ts'.map PTok.cells) .free,.int .i64 ((o:Int)+1)]::H:=u2
 have w1:qc1 .i64 ((o:Int)+1)=(o:Int)+1:=qhn (by omega) (by omega)
 have w2:qc1 .i64 ((o:Int)+1-1)=(o:Int):=by rw[show(o:Int)+1-1=o by omega];exact qhn (by omega) (by omega)
 have d1:decide ((100:Int)<(o:Int)+1)=false:=decide_eq_false (by omega)
 unfold RdE
 refine qa6 rfl Tryz.func151 rfl (by kernel_rfl) (m:=27) rfl ?_;simp only[Z3,simprocAttr,Tryz.f151,fx_151,effs,pbox,w1,w2,d1,v1,v2]
 exact qe1 (ts:=ts') (d:=o) (.inl rfl) rfl rfl (qh9 e) rfl rfl
structure InSt where
 n:Nat
 most:Nat
 left:PExpr
 tk:Tk
 ts:List PTok
theorem infix_c {N:Nat} {R:Rd} (hR:HypE R) {o least:Nat} {ts ts1 ts':List PTok} {left e:PExpr} (hpos:0<least) (hT:TsOk ts) (hu:R o 0 ts= .ok left ts1) (hloop:qez R o least N 7 left ts1= .ok e ts'):
 RdE 99 [.int .i64 least] ts o e ts':=by
 obtain⟨hT1,ru,_⟩:=hR _ _ _ _ _ hT hu
 obtain⟨E,u1,u2⟩:=(ru rfl).m rfl
 unfold RdE
 refine qa6 rfl Tryz.func99 rfl (by kernel_rfl) (m:=52) rfl ?_;simp only[Z3,simprocAttr,Tryz.f99,qex,effs,u1,u2]
 generalize hb:qam PP cmp0 C lpC _=f;generalize hl:lpC f _=r
 obtain⟨ex,s',rfl,⟨rfl,tk',h2⟩⟩:=qes (α:=InSt) hl [7,8,11,12,13,14,15,16,17,18,19,20,21,22,23,24,25,26,27,28,29,30,31,32,33,34,35,36,37,38,39,40,41,42,43,44,45,46,47,48,49,50,51,52,53] (fun a=>[(6,.int .i64 a.most)]) (fun a=>[.box (pbox a.ts o),.box qax,.box (a.left.cellsT a.tk)]) (fun a=>TsOk a.ts∧qez R o least a.n a.most a.left a.ts= .ok e ts') (fun a=>a.n) (fun _=>())
  (fun ts _ ex s=>ex= .ret∧∃tk,At [6,7,8,11,12,13,14,15,16,17,18,19,20,21,22,23,24,25,26,27,28,29,30,31,32,33,34,35,36,37,38,39,40,41,42,43,44,45,46,47,48,49,50,51,52,53] ts [.box (pbox ts' o),.box (e.cellsT tk)] [] s) ⟨N,7,left,.free,ts1⟩ ⟨hT1,hloop⟩ (by rw[qu9];exact At.of [] (by simp only[ats];rfl) (by simp only[List.append_nil];rfl)) (by
   rintro⟨n,most,left,tk,ts⟩ j H d ⟨hTs,hp⟩
   clear hl;subst hb
   simp only at hTs hp ⊢
   cases n with
   |zero=>cases hp
   |succ n=>
    obtain⟨t,r,rfl⟩:=hTs.ne
    simp only[qez]at hp
    have hbl:=bind_le (qau (t::r))
    have cb:=bind_c (qau (t::r))
    by_cases hb1:qbc (qau (t::r))<least∨most<qbc (qau (t::r))
    ·rw[if_pos hb1]at hp
     cases hp
     by_cases hb2:qbc (qau (t::r))<least
     ·have d1:decide (((qbc (qau (t::r)):Nat):Int)<(least:Int))=true:=decide_eq_true (by omega)
      simp only[Z3,simprocAttr,effs,qex,PExpr.cellsT,qax,qbb,cb _,d1]
      exact .inr ⟨_,_,rfl,by simp,rfl,tk,At.of _ (by simp only[ats,w6]) (by simp only[wi,wg,wk];rfl)⟩
     ·have d1:decide (((qbc (qau (t::r)):Nat):Int)<(least:Int))=false:=decide_eq_false (by omega)
      have d2:decide ((most:Int)<((qbc (qau (t::r)):Nat):Int))=true:=decide_eq_true (by omega)
      simp only[Z3,simprocAttr,effs,qex,PExpr.cellsT,qax,qbb,cb _,d1,d2]
      exact .inr ⟨_,_,rfl,by simp,rfl,tk,At.of _ (by simp only[ats,w6]) (by simp only[wi,wg,wk];rfl)⟩
    ·rw[if_neg hb1]at hp
     have hne:qbc (qau (t::r))≠0:=by omega
     have hTr:=hTs.tail (qtf hne)
     have d1:decide (((qbc (qau (t::r)):Nat):Int)<(least:Int))=false:=decide_eq_false (by omega)
     have d2:decide ((most:Int)<((qbc (qau (t::r)):Nat):Int))=false:=decide_eq_false (by omega)
     obtain⟨Es,s1,s2⟩:=qk4 t r o
     by_cases q1:qbc (qau (t::r))=1
     ·rw[if_pos q1]at hp
      obtain⟨k,ts2,hk,hp⟩:=PR.bind_ok hp
      cases hp
      obtain⟨_,_,rk⟩:=hR _ _ _ _ _ hTr hk
      have rk':RdE 99 [.int .i64 1] r o k ts':=rk (by omega)
      obtain⟨Ek,y1,y2,y3⟩:=rk'.m3 rfl
      have e1:(((qbc (qau (t::r)):Nat):Int)==1)=true:=by rw[q1];rfl
      simp only[Z3,simprocAttr,effs,qex,PExpr.cellsT,qax,qbb,cb _,d1,d2,s1,s2,e1,y1,y2,qgd,qen,qmc _ _ _ _]
      rw[qcr]
      ·simp only[Z3,simprocAttr,effs,qex,y2,qmc _ _ _ _]
       exact .inr ⟨_,_,rfl,by simp,rfl,.free,At.of _ (by simp only[ats]<;>rfl) (by simp only[wi,wg,wk]<;>rfl)⟩
      ·kernel_rfl
      ·have z2:=y3 (Blk.box qax::Blk.box (left.cellsT tk)::H) 2 (by omega) (by simp)
       unfold qax PExpr.cellsT at z2
       simp only[qaj,qbx,qae,qcp,z2,wm,wq,wo,wd,we]
     ·rw[if_neg q1]at hp
      have e1:(((qbc (qau (t::r)):Nat):Int)==1)=false:=by simp;omega
      by_cases q2:qbc (qau (t::r))=2
      ·rw[if_pos q2]at hp
       obtain⟨k,ts2,hk,hp⟩:=PR.bind_ok hp
       obtain⟨hT2,_,rk⟩:=hR _ _ _ _ _ hTr hk
       have rk':RdE 99 [.int .i64 2] r o k ts2:=rk (by omega)
       obtain⟨Ek,y1,y2,y3⟩:=rk'.m3 rfl
       have e2:(((qbc (qau (t::r)):Nat):Int)==2)=true:=by rw[q2];rfl
       simp only[Z3,simprocAttr,effs,qex,PExpr.cellsT,qax,qbb,cb _,d1,d2,s1,s2,e1,e2,y1,y2,qgd,qen,qmc _ _ _ _]
       rw[qcr]
       ·simp only[Z3,simprocAttr,effs,qex,y2,qmc _ _ _ _]
        exact .inl ⟨⟨n,1,eFby left k,.free,ts2⟩,_,rfl,⟨hT2,hp⟩,At.of _ (by simp only[ats]<;>rfl) (by simp only[wi,wg,wk]<;>rfl),by simp only[];omega,trivial⟩
       ·kernel_rfl
       ·have z2:=y3 (Blk.box qax::Blk.box (left.cellsT tk)::H) 2 (by omega) (by simp)
        unfold qax PExpr.cellsT at z2
        simp only[qaj,qbx,qae,qcp,z2,wm,wq,wo,wd,we]
      ·rw[if_neg q2]at hp
       have e2:(((qbc (qau (t::r)):Nat):Int)==2)=false:=by simp;omega
       obtain⟨k,ts2,hk,hp⟩:=PR.bind_ok hp
       obtain⟨hT2,_,rk⟩:=hR _ _ _ _ _ hTr hk
       have rk':RdE 99 [.int .i64 (((qbc (qau (t::r)):Nat):Int)+1)] r o k ts2:=rk (by omega)
       obtain⟨Ek,y1,y2,y3⟩:=rk'.m3 rfl
       have w1:qc1 .i64 (((qbc (qau (t::r)):Nat):Int)+1)=((qbc (qau (t::r)):Nat):Int)+1:=qhn (by omega) (by omega)
       by_cases q5:qbc (qau (t::r))=5
       ·rw[if_pos q5]at hp
        have e5:(((qbc (qau (t::r)):Nat):Int)==5)=true:=by rw[q5];rfl
        have w5:qc1 .i64 (((qbc (qau (t::r)):Nat):Int)-1)=4:=by rw[q5];rfl
        simp only[Z3,simprocAttr,effs,qex,PExpr.cellsT,qax,qbb,cb _,d1,d2,s1,s2,e1,e2,w1,y1,y2,qgd,qen]
        rw[qcr]
        ·simp only[Z3,simprocAttr,effs,qex,y2,qgd,qen,e5,w5]
         exact .inl ⟨⟨n,4,eBin (qau (t::r)) left k,.full,ts2⟩,_,rfl,⟨hT2,hp⟩,At.of _ (by simp only[ats]<;>rfl) (by simp only[wi,wg,wk]<;>rfl),by simp only[];omega,trivial⟩
        ·kernel_rfl
        ·have z2:=y3 (Blk.box qax::Blk.box (left.cellsT tk)::H) 2 (by omega) (by simp)
         unfold qax PExpr.cellsT at z2
         simp only[qaj,qbx,qae,qcp,z2,wm,wq,wo,wd,we]
       ·rw[if_neg q5]at hp
        have e5:(((qbc (qau (t::r)):Nat):Int)==5)=false:=by simp;omega
        simp only[Z3,simprocAttr,effs,qex,PExpr.cellsT,qax,qbb,cb _,d1,d2,s1,s2,e1,e2,w1,y1,y2,qgd,qen]
        rw[qcr]
        ·simp only[Z3,simprocAttr,effs,qex,y2,qgd,qen,e5]
         exact .inl ⟨⟨n,qbc (qau (t::r)),eBin (qau (t::r)) left k,.full,ts2⟩,_,rfl,⟨hT2,hp⟩,At.of _ (by simp only[ats]<;>rfl) (by simp only[wi,wg,wk]<;>rfl),by simp only[];omega,trivial⟩
        ·kernel_rfl
        ·have z2:=y3 (Blk.box qax::Blk.box (left.cellsT tk)::H) 2 (by omega) (by simp)
         unfold qax PExpr.cellsT at z2
         simp only[qaj,qbx,qae,qcp,z2,wm,wq,wo,wd,we])
 obtain⟨j,H,d,rfl⟩:=h2.elim
 clear hl
 simp only[Z3,simprocAttr,effs,qex]
 exact qe1 (ts:=ts') (d:=o) (.inl rfl) rfl rfl (qk5 e tk') rfl rfl
end Go.Ab
namespace Go.Ab
open Go Go.Ab.Tab
def Grow2 (h:qab) (v:AVal) (es:List (List AVal)) (T:TypeId):Prop:=v= .slice es .full∨∃t,v= .slice es (.own t)∧h[t]? =some (.tok es.length T)
theorem Grow2.set {h:qab} {v:AVal} {es:List (List AVal)} {T:TypeId} {b:Nat} {x y:List AVal} (g:Grow2 h v es T) (hb:h[b]? =some (.box x)):Grow2 (h.set b (.box y)) v es T:=by
 rcases g with g|⟨t,h1,h2⟩
 ·exact .inl g
 ·refine .inr ⟨t,h1,?_⟩
  rw[wv (by rintro rfl;rw[hb]at h2;cases h2)];exact h2
theorem qkc {P:Program} {t e sz:Nat} (ok:qfg P t e sz) {h:qab} {v:AVal} {es fs:List (List AVal)} (g:Grow2 h v es e) (hl:es.length+fs.length≤qac) (h1:∀c∈es,c.length=sz) (h2:∀c∈fs,c.length=sz) (hne:¬fs=[]):
 ∃v' f,qb1 P h t v (.slice fs .full)=some (v',f)∧Grow2 (f.of h) v' (es++fs) e∧Boxes h (f.of h):=by
 rcases g with rfl|⟨p,rfl,hp⟩
 ·refine⟨_,_,qcj h ok hl (qbt h1) (qbt h2) hne,.inr ⟨_,rfl,?_⟩,Boxes.app _ _⟩
  simp[Eff.of]
 ·refine⟨_,_,qcx h ok hl (qbt h1) (qbt h2) hne hp rfl,.inr ⟨_,rfl,?_⟩,?_⟩
  ·simp only[Eff.of]
   rw[wf (wc.1 hp).1]
   simp
  ·intro k cs hk
   simp only[Eff.of]
   by_cases hkp:p=k
   ·subst hkp;rw[hp]at hk;cases hk
   ·rw[wv hkp];exact hk
theorem strs1 (l:List Str):∀c∈l.map (fun s=>[AVal.str s]),c.length=1:=by
 intro c hc;obtain⟨s,_,rfl⟩:=ww.1 hc;rfl
theorem qtg {k:Int} {sep:Str}:∀(n:Nat) (ts ts':List PTok) (l:List Str),qfx k sep n ts= .ok l ts'→l.length+ts'.length≤ts.length
 |0,_,_,_,h=>by cases h
 |n+1,ts,ts',l,h=>by
  simp only[qfx]at h
  obtain⟨t,r,rfl,_,h⟩:=qbz h
  split at h
  ·obtain⟨l1,ts1,h1,h⟩:=PR.bind_ok h
   cases h
   have:=qtg n _ _ _ h1
   rw[List.length_tail]at this
   simp only[wa]
   cases r with
   |nil=>simp[hasS]at*
   |cons a b=>simp only[wa]at*;omega
  ·cases h
   simp only[wa,wj];omega
theorem q1x {k:Int} {sep:Str} (hk6:k≠6):∀(n:Nat) (ts ts':List PTok) (l:List Str),TsOk ts→qfx k sep n ts= .ok l ts'→TsOk ts'
 |0,_,_,_,_,h=>by cases h
 |n+1,ts,ts',l,hT,h=>by
  simp only[qfx]at h
  obtain⟨t,r,rfl,hs,h⟩:=qbz h
  have hTr:=hT.tail (by rw[hs];exact hk6)
  split at h
  ·rename_i hh
   obtain⟨l1,ts1,h1,h⟩:=PR.bind_ok h
   cases h
   obtain⟨t2,r2,rfl,hT2,_,_⟩:=hTr.hasS hh
   exact q1x hk6 n _ _ _ hT2 h1
  ·cases h;exact hTr
theorem qoz {H:qab} {x:Blk} (h:H[0]? =some x):H.take 1=[x]:=by
 cases H with
 |nil=>cases h
 |cons a b=>simp at h;simp[h]
structure ListSt where
 n:Nat
 acc:List Str
 v:AVal
 ts:List PTok
theorem qut {k:Int} {g:FuncId} (hk6:k≠6) (d:Nat) (hg:∀t r,t.sort=k→qbi C g [.ptr 0 0] [.box (pbox (t::r) d)] (.str t.text) [.box (pbox r d)]) (sep:Str) (hsep:sep≠[]) {n:Nat} {ts ts':List PTok} {l:List Str} (hT:TsOk ts) (h:qfx k sep n ts= .ok l ts'):
 TsOk ts'∧qbi C 133 [.ptr 0 0,.str sep,.func g [.ptr 0 0] []] [.box (pbox ts d)] (.slice (l.map fun s=>[.str s]) .free) [.box (pbox ts' d)]:=by
 refine⟨q1x hk6 n ts ts' l hT h,?_⟩
 cases n with
 |zero=>cases h
 |succ n=>
  simp only[qfx]at h
  obtain⟨t,rt,rfl,hs,h⟩:=qbz h
  obtain⟨E,e1,e2⟩:=met (hg t rt hs) rfl (qaa _ _) (qaa _ _) rfl
  have hTr:=hT.tail (by rw[hs];exact hk6)
  have hle:=hTr.le
  refine qa6 rfl Tryz.func133 rfl (by kernel_rfl) (m:=17) rfl ?_;simp only[Z3,simprocAttr,Tryz.f133,qks,effs,e1,e2]
  generalize hb:qam PP cmp0 C lpC _=f;generalize hl:lpC f _=r
  obtain⟨ex,s',rfl,rfl,tk,h2⟩:=qch (α:=ListSt) hl [11,12,13,14,15,16,17,18] (fun a=>[(7,a.v)]) (fun a h=>h[0]? =some (.box (pbox a.ts d))∧Grow2 h a.v (a.acc.map fun s=>[.str s]) 9∧TsOk a.ts∧a.acc.length+a.ts.length≤65538∧(if hasS sep a.ts=true then(qfx k sep a.n a.ts.tail).bind fun l2 ts2=> .ok (a.acc++l2) ts2 else .ok a.acc a.ts)= .ok l ts') (fun a=>a.n) (fun _=>())
   (fun ts _ ex s=>ex= .exit 0∧∃tk,OutT [11,12,13,14,15,16,17,18] ts [(7,.slice (l.map fun s=>[.str s]) tk)] (fun g=>g[0]? =some (.box (pbox ts' d))) s) ⟨n,[t.text],.slice [[.str t.text]] .full,rt⟩ ⟨rfl,.inl rfl,hTr,by simp only[wa,wj];omega,h⟩ (by simp only[AtT,ats]) (by
    rintro⟨n,acc,v,ts⟩ j G dd ⟨q0,hgr,hTs,hln,hp⟩
    clear hl;subst hb
    simp only at q0 hgr hTs hln hp ⊢
    obtain⟨t,rt,rfl⟩:=hTs.ne
    cases hh:hasS sep (t::rt)
    ·rw[hh]at hp
     simp only[wt,if_false]at hp
     cases hp
     have c1:=qcf (c:=C) (b:=0) (H:=G) (rest:=[.str sep]) rfl q0 (qaa _ _) (qhx sep hsep t rt d hh) rfl
     simp only[Z3,simprocAttr,effs,qks,c1]
     obtain⟨tk,hv⟩:∃tk,v= .slice (l.map fun s=>[.str s]) tk:=by
      rcases hgr with h|⟨_,h,_⟩<;>exact⟨_,h⟩
     subst hv
     exact .inr ⟨_,_,rfl,by simp,rfl,tk,by simp only[OutT,AtT,ats],q0⟩
    ·rw[hh]at hp
     simp only[if_true,w8]at hp
     cases n with
     |zero=>cases hp
     |succ n=>
      obtain⟨l2,ts2,h2,hp⟩:=PR.bind_ok hp
      cases hp
      obtain⟨_,_,hc,hTr,_,_⟩:=hTs.hasS hh
      cases hc
      simp only[qfx]at h2
      obtain⟨t2,r2,rfl,hs2,h2⟩:=qbz h2
      obtain⟨E1,hE1,hh1⟩:=qed qaw (b:=0) (H:=G) (rest:=[.str sep]) rfl q0 (qaa _ _) (qaa _ _) (qem sep t (t2::r2) d hh) rfl
      have l0:=(wc.1 q0).1
      obtain⟨g1,hg1⟩:∃g1,g1=G.set 0 (.box (pbox (t2::r2) d)):=⟨_,rfl⟩
      rw[←hg1]at hh1
      have p1:g1[0]? =some (.box (pbox (t2::r2) d)):=by rw[hg1,wf l0]
      have gg1:=hgr.set (y:=pbox (t2::r2) d) q0
      rw[←hg1]at gg1
      obtain⟨E2,hE2,hh2⟩:=qed qaw (b:=0) (H:=g1) (rest:=[]) rfl p1 (qaa _ _) (qaa _ _) (hg t2 r2 hs2) rfl
      obtain⟨g2,hg2⟩:∃g2,g2=g1.set 0 (.box (pbox r2 d)):=⟨_,rfl⟩
      rw[←hg2]at hh2
      have p2:g2[0]? =some (.box (pbox r2 d)):=by rw[hg2,wf (wc.1 p1).1]
      have gg2:=gg1.set (y:=pbox r2 d) p1
      rw[←hg2]at gg2
      have hlen:acc.length+1≤qac:=by
       simp only[wa]at hln
       unfold qac;omega
      obtain⟨v3,E3,ha3,gg3,hB3⟩:=qkc qgx (fs:=[[.str t2.text]]) gg2 (by simpa using hlen) (strs1 acc) (by intro c hc;simp only[w9,w7,or_false]at hc;subst hc;rfl) (by simp)
      have p3:=hB3 _ _ p2
      simp only[Z3,simprocAttr,effs,qks,hE1,hh1,hE2,hh2,ha3]
      refine .inl ⟨⟨n,acc++[t2.text],v3,r2⟩,_,rfl,⟨p3,by simpa using gg3,hTr.tail (by rw[hs2];exact hk6),?_,?_⟩,by simp only[AtT,ats],by simp only[];omega,trivial⟩
      ·simp only[wz,wa,wj]at hln ⊢;omega
      ·split at h2
       ·rename_i hh3
        rw[if_pos hh3]
        obtain⟨l3,ts3,h3,h2⟩:=PR.bind_ok h2
        cases h2
        rw[h3]
        simp[PR.bind]
       ·rename_i hh3
        rw[if_neg hh3]
        cases h2
        rfl)
  obtain⟨j,H,dd,q0,rfl⟩:=h2.elim
  clear hl
  simp only[Z3,simprocAttr,effs,qks]
  exact qcy (.inl rfl) rfl rfl rfl (fun b hb=>by
   obtain rfl:b=0:=wh.1 hb
   exact qeu _ _ ts' d _ q0) (qoz q0)
theorem met4 {f:FuncId} {rest:List AVal} {x y:List AVal} {v:AVal} (g:qbi C f (.ptr 0 0::rest) [.box x] v [.box y]) (hr:qad rest=[0]) (px:qad x=[]) (py:qad y=[]) (hv:refs v=[]):
 ∃E:qab→Eff,(∀H,qai C (.box x::H) f (.ptr 0 0::rest)=some (.ret v (E H)))∧(∀H,(E H).of (.box x::H)= .box y::H):=by
 have h:∀H,qnz C (.box x::H) f (.ptr 0 0::rest) v (.box y::H):=by
  intro H
  have ha:qad (.ptr 0 0::rest)=[0,0]:=by simp[qad,refs,hr]
  refine qjk qaw [0] (by rw[ha];simp[qbv,px]) (by simp) (by unfold qc2;simp[ha,qdq,px]) (?_:qbi C f _ (subH (.box x::H) [0]) v [.box y]) hv ?_
  ·have e1:subH (.box x::H) [0]=[.box x]:=by simp[subH,renB,qbs px]
   have e2:renL (fun x=>[0].idxOf x) (.ptr 0 0::rest)= .ptr 0 0::rest:=qco _ (by rw[ha];simp)
   rw[e1,e2];exact g
  ·intro H' k
   apply List.ext_getElem?
   intro i
   cases i with
   |zero=>rw[k.inn 0 0 rfl];simp[renB,qbs py]
   |succ i=>
    by_cases hi:i+1<(Blk.box x::H).length
    ·rw[k.out (i+1) hi (by simp)];rfl
    ·have e3:([Blk.box y]:List Blk)[[0].length+(i+1-(Blk.box x::H).length)]? =none:=wu (by simp)
     have e4:(Blk.box y::H)[i+1]? =none:=wu (by simp only[wa]at hi ⊢;omega)
     rw[k.new (i+1) (by omega),e3,e4]
     rfl
 exact⟨fun H=>(h H).choose,fun H=>(h H).choose_spec.1,fun H=>(h H).choose_spec.2⟩
theorem qec {m:Nat} {opn cls:Str} {d:Nat} {ts ts':List PTok} {l:List Str} (hT:TsOk ts) (h:qfw m opn cls ts= .ok l ts'):
 TsOk ts'∧qbi C 135 [.ptr 0 0,.str opn,.str cls] [.box (pbox ts d)] (.slice (l.map fun s=>[.str s]) .free) [.box (pbox ts' d)]:=by
 unfold qfw at h
 obtain⟨w1,h⟩:=qa5 h
 obtain⟨t,r,rfl,hTr,_,_⟩:=hT.hasS w1
 obtain⟨l1,ts1,h1,h⟩:=PR.bind_ok h
 obtain⟨hT1,g1⟩:=qut (by decide) d (fun t r hs=>qdy t r d hs) [44] (by decide) hTr h1
 obtain⟨w2,h⟩:=qa5 h
 obtain⟨t2,r2,rfl,hT2,_,_⟩:=hT1.hasS w2
 cases h
 refine⟨hT2,?_⟩
 obtain⟨E1,a1,a2⟩:=qbr _ t r d w1
 obtain⟨E2,b1,b2⟩:=met4 g1 rfl (qaa _ _) (qaa _ _) rfl
 obtain⟨E3,c1,c2⟩:=qbr _ t2 r2 d w2
 refine qa6 rfl Tryz.func135 rfl (by kernel_rfl) (m:=18) rfl ?_;simp only[Z3,simprocAttr,Tryz.f135,qxf,effs,a1,a2,b1,b2,c1,c2]
 exact qcy (.inl rfl) rfl rfl rfl (fun b hb=>by
  obtain rfl:b=0:=wh.1 hb
  exact qeu _ _ r2 d _ rfl) rfl
end Go.Ab
namespace Go.Ab
open Go Go.Ab.Tab
def LenR (R:Rd):Prop:=∀(o least:Nat) (ts:List PTok) (e:PExpr) (ts':List PTok),R o least ts= .ok e ts'→ts'.length≤ts.length
theorem exprs5 (l:List PExpr):∀c∈l.map PExpr.cells,c.length=5:=by
 intro c hc;obtain⟨s,_,rfl⟩:=ww.1 hc;exact s.len
theorem qzt {R:Rd} (hR:HypE R) {o:Nat}:∀(n:Nat) (ts ts':List PTok) (l:List PExpr),TsOk ts→qej R o n ts= .ok l ts'→TsOk ts'
 |0,_,_,_,_,h=>by cases h
 |n+1,ts,ts',l,hT,h=>by
  simp only[qej]at h
  obtain⟨e,r,he,h⟩:=PR.bind_ok h
  have hTr:=(hR _ _ _ _ _ hT he).1
  split at h
  ·rename_i hh
   obtain⟨l1,ts1,h1,h⟩:=PR.bind_ok h
   cases h
   obtain⟨t2,r2,rfl,hT2,_,_⟩:=hTr.hasS hh
   exact qzt hR n _ _ _ hT2 h1
  ·cases h;exact hTr
structure ListEt where
 n:Nat
 acc:List PExpr
 v:AVal
 ts:List PTok
theorem quu {R:Rd} (hR:HypE R) (hLen:LenR R) (d:Nat) {n:Nat} {ts ts':List PTok} {l:List PExpr} (hT:TsOk ts) (h:qej R d n ts= .ok l ts'):
 TsOk ts'∧qbi C 297 [.ptr 0 0,.str [44],.func 50 [.ptr 0 0] []] [.box (pbox ts d)] (.slice (l.map PExpr.cells) .free) [.box (pbox ts' d)]:=by
 refine⟨qzt hR n ts ts' l hT h,?_⟩
 cases n with
 |zero=>cases h
 |succ n=>
  simp only[qej]at h
  obtain⟨e0,rt,h0,h⟩:=PR.bind_ok h
  obtain⟨hTr,x0⟩:=qds hR hT h0
  obtain⟨E,e1,e2⟩:=x0.m rfl
  have hle:=hTr.le
  refine qa6 rfl Tryz.func297 rfl (by kernel_rfl) (m:=17) rfl ?_;simp only[Z3,simprocAttr,Tryz.f297,qkv,effs,e1,e2]
  generalize hb:qam PP cmp0 C lpC _=f;generalize hl:lpC f _=r
  obtain⟨ex,s',rfl,rfl,tk,h2⟩:=qch (α:=ListEt) hl [11,12,13,14,15,16,17,18] (fun a=>[(7,a.v)]) (fun a h=>h[0]? =some (.box (pbox a.ts d))∧Grow2 h a.v (a.acc.map PExpr.cells) 37∧TsOk a.ts∧a.acc.length+a.ts.length≤65538∧(if hasS [44] a.ts=true then(qej R d a.n a.ts.tail).bind fun l2 ts2=> .ok (a.acc++l2) ts2 else .ok a.acc a.ts)= .ok l ts') (fun a=>a.n) (fun _=>())
   (fun ts _ ex s=>ex= .exit 0∧∃tk,OutT [11,12,13,14,15,16,17,18] ts [(7,.slice (l.map PExpr.cells) tk)] (fun g=>g[0]? =some (.box (pbox ts' d))) s) ⟨n,[e0],.slice [e0.cells] .full,rt⟩ ⟨rfl,.inl rfl,hTr,by simp only[wa,wj];omega,h⟩ (by simp only[AtT,ats]) (by
    rintro⟨n,acc,v,ts⟩ j G dd ⟨q0,hgr,hTs,hln,hp⟩
    clear hl;subst hb
    simp only at q0 hgr hTs hln hp ⊢
    obtain⟨t,rt,rfl⟩:=hTs.ne
    cases hh:hasS [44] (t::rt)
    ·rw[hh]at hp
     simp only[wt,if_false]at hp
     cases hp
     have c1:=qcf (c:=C) (b:=0) (H:=G) (rest:=[.str [44]]) rfl q0 (qaa _ _) (qhx [44] (by decide) t rt d hh) rfl
     simp only[Z3,simprocAttr,effs,qkv,c1]
     obtain⟨tk,hv⟩:∃tk,v= .slice (l.map PExpr.cells) tk:=by
      rcases hgr with h|⟨_,h,_⟩<;>exact⟨_,h⟩
     subst hv
     exact .inr ⟨_,_,rfl,by simp,rfl,tk,by simp only[OutT,AtT,ats],q0⟩
    ·rw[hh]at hp
     simp only[if_true,w8]at hp
     cases n with
     |zero=>cases hp
     |succ n=>
      obtain⟨l2,ts2,h2,hp⟩:=PR.bind_ok hp
      cases hp
      obtain⟨_,_,hc,hTr,_,_⟩:=hTs.hasS hh
      cases hc
      simp only[qej]at h2
      obtain⟨x2,r2,h20,h2⟩:=PR.bind_ok h2
      have hlen2:=hLen _ _ _ _ _ h20
      obtain⟨hT2,y2⟩:=qds hR hTr h20
      obtain⟨E1,hE1,hh1⟩:=qed qaw (b:=0) (H:=G) (rest:=[.str [44]]) rfl q0 (qaa _ _) (qaa _ _) (qem [44] t rt d hh) rfl
      have l0:=(wc.1 q0).1
      obtain⟨g1,hg1⟩:∃g1,g1=G.set 0 (.box (pbox rt d)):=⟨_,rfl⟩
      rw[←hg1]at hh1
      have p1:g1[0]? =some (.box (pbox rt d)):=by rw[hg1,wf l0]
      have gg1:=hgr.set (y:=pbox rt d) q0
      rw[←hg1]at gg1
      obtain⟨E2,hE2,hh2⟩:=qed qaw (b:=0) (H:=g1) (rest:=[]) rfl p1 (qaa _ _) (qaa _ _) y2 (by simp only[refs];exact x2.norefs)
      obtain⟨g2,hg2⟩:∃g2,g2=g1.set 0 (.box (pbox r2 d)):=⟨_,rfl⟩
      rw[←hg2]at hh2
      have p2:g2[0]? =some (.box (pbox r2 d)):=by rw[hg2,wf (wc.1 p1).1]
      have gg2:=gg1.set (y:=pbox r2 d) p1
      rw[←hg2]at gg2
      have hlen:acc.length+1≤qac:=by
       simp only[wa]at hln
       unfold qac;omega
      obtain⟨v3,E3,ha3,gg3,hB3⟩:=qkc qie (fs:=[x2.cells]) gg2 (by simpa using hlen) (exprs5 acc) (by intro c hc;simp only[w9,w7,or_false]at hc;subst hc;exact x2.len) (by simp)
      have p3:=hB3 _ _ p2
      simp only[Z3,simprocAttr,effs,qkv,hE1,hh1,hE2,hh2,ha3]
      refine .inl ⟨⟨n,acc++[x2],v3,r2⟩,_,rfl,⟨p3,by simpa using gg3,hT2,?_,?_⟩,by simp only[AtT,ats],by simp only[];omega,trivial⟩
      ·simp only[wz,wa,wj]at hln ⊢;omega
      ·split at h2
       ·rename_i hh3
        rw[if_pos hh3]
        obtain⟨l3,ts3,h3,h2⟩:=PR.bind_ok h2
        cases h2
        rw[h3]
        simp[PR.bind]
       ·rename_i hh3
        rw[if_neg hh3]
        cases h2
        rfl)
  obtain⟨j,H,dd,q0,rfl⟩:=h2.elim
  clear hl
  simp only[Z3,simprocAttr,effs,qkv]
  exact qcy (.inl rfl) rfl rfl rfl (fun b hb=>by
   obtain rfl:b=0:=wh.1 hb
   exact qeu _ _ ts' d _ q0) (qoz q0)
theorem pcall_c {m:Nat} {R:Rd} (hR:HypE R) (hLen:LenR R) {d:Nat} {t:PTok} {r ts':List PTok} {e:PExpr} (hT:TsOk r) (hs:t.sort=1) (hc:(hasS [91] r||hasS [40] r)=true) (h:qii m R d t.text r= .ok e ts'):
 TsOk ts'∧RdE 286 [] (t::r) d e ts':=by
 obtain⟨N1,n1,n2⟩:=met (qdy t r d hs) rfl (qaa _ _) (qaa _ _) rfl
 unfold qii at h
 obtain⟨c,tsc,h1,h⟩:=PR.bind_ok h
 obtain⟨w1,h⟩:=qa5 h
 obtain⟨t1,r1,rfl⟩:=hT.ne
 cases hb:hasS [91] (t1::r1)
 ·rw[hb]at h1 hc
  simp only[wt,if_false]at h1
  cases h1
  obtain⟨_,_,hcc,hTr,_,_⟩:=hT.hasS w1
  cases hcc
  obtain⟨l,tsl,h2,h⟩:=PR.bind_ok h
  obtain⟨hT2,g2⟩:=quu hR hLen d hTr h2
  obtain⟨w2,h⟩:=qa5 h
  obtain⟨t2,r2,rfl,hT3,_,_⟩:=hT2.hasS w2
  cases h
  refine⟨hT3,?_⟩
  obtain⟨E1,a1,a2⟩:=qbr _ t1 r1 d w1
  obtain⟨E2,b1,b2⟩:=met4 g2 rfl (qaa _ _) (qaa _ _) rfl
  obtain⟨E3,c1,c2⟩:=qbr _ t2 r2 d w2
  have q1:=qg3 (s:=[91]) (by decide) hb
  have q2:=qg2 w1
  unfold RdE
  refine qa6 rfl Tryz.func286 rfl (by kernel_rfl) (m:=35) rfl ?_;simp only[Z3,simprocAttr,Tryz.f286,qku,effs,n1,n2,qbb,bne,q1,q2,a1,a2,b1,b2,c1,c2]
  exact qe1 (ts:=r2) (d:=d) (.inl rfl) rfl rfl (mk_c 14 t.text 0 [] l .full .free) rfl rfl
 ·rw[hb]at h1
  simp only[if_true]at h1
  obtain⟨hTc,gn⟩:=qec (d:=d) hT h1
  obtain⟨t3,r3,rfl,hTr,_,_⟩:=hTc.hasS w1
  obtain⟨l,tsl,h2,h⟩:=PR.bind_ok h
  obtain⟨hT2,g2⟩:=quu hR hLen d hTr h2
  obtain⟨w2,h⟩:=qa5 h
  obtain⟨t2,r2,rfl,hT3,_,_⟩:=hT2.hasS w2
  cases h
  refine⟨hT3,?_⟩
  obtain⟨E0,m1,m2⟩:=met gn rfl (qaa _ _) (qaa _ _) rfl
  obtain⟨E1,a1,a2⟩:=qbr _ t3 r3 d w1
  obtain⟨E2,b1,b2⟩:=met4 g2 rfl (qaa _ _) (qaa _ _) rfl
  obtain⟨E3,c1,c2⟩:=qbr _ t2 r2 d w2
  have q1:=qg2 hb
  unfold RdE
  refine qa6 rfl Tryz.func286 rfl (by kernel_rfl) (m:=35) rfl ?_;simp only[Z3,simprocAttr,Tryz.f286,qku,effs,n1,n2,qbb,bne,q1,m1,m2,a1,a2,b1,b2,c1,c2]
  exact qe1 (ts:=r2) (d:=d) (.inl rfl) rfl rfl (mk_c 14 t.text 0 c l .free .free) rfl rfl
theorem pvar_c {d:Nat} {t:PTok} {r:List PTok} (hT:TsOk r) (hs:t.sort=1) (hc:(hasS [91] r||hasS [40] r)=false):
 RdE 286 [] (t::r) d (eVar t.text) r:=by
 obtain⟨N1,n1,n2⟩:=met (qdy t r d hs) rfl (qaa _ _) (qaa _ _) rfl
 obtain⟨t1,r1,rfl⟩:=hT.ne
 simp only[Bool.or_eq_false_iff]at hc
 have q1:=qg3 (s:=[91]) (by decide) hc.1
 have q2:=qg3 (s:=[40]) (by decide) hc.2
 unfold RdE
 refine qa6 rfl Tryz.func286 rfl (by kernel_rfl) (m:=35) rfl ?_;simp only[Z3,simprocAttr,Tryz.f286,qku,effs,n1,n2,qbb,bne,q1,q2]
 exact qe1 (ts:=t1::r1) (d:=d) (.inl rfl) rfl rfl (mk_c 4 t.text 0 [] [] .full .full) rfl rfl
end Go.Ab
namespace Go.Ab
open Go Go.Ab.Tab
def HypA (m:Nat) (R:Rd) (d:Nat):Prop:=∀(op:Int) (ts:List PTok) (e:PExpr) (ts':List PTok),TsOk ts→qja m R d op ts= .ok e ts'→TsOk ts'∧RdE 287 [.int .i64 op] ts d e ts'
theorem atom_c {m:Nat} {R:Rd} (hR:HypE R) (hLen:LenR R) {d:Nat} (hA:HypA m R d) {ts ts':List PTok} {e:PExpr} (hT:TsOk ts) (h:qhu m R d ts= .ok e ts'):
 TsOk ts'∧RdE 271 [] ts d e ts':=by
 obtain⟨t,r,rfl⟩:=hT.ne
 unfold qhu at h
 unfold RdE
 by_cases s3:qc3 (t::r)=3
 ·rw[if_pos s3]at h
  cases h
  refine⟨hT.tail (by rw[show t.sort=3 from s3];decide),?_⟩
  obtain⟨E,e1,e2⟩:=qk4 t ts' d
  have k3:(t.sort==3)=true:=by have:t.sort=3:=s3;simpa using this
  refine qa6 rfl Tryz.func271 rfl (by kernel_rfl) (m:=53) rfl ?_;simp only[Z3,simprocAttr,Tryz.f271,qgz,effs,qe0,k3,e1,e2]
  exact qe1 (ts:=ts') (d:=d) (.inl rfl) rfl rfl (mk_c 1 [] t.n [] [] .full .full) rfl rfl
 rw[if_neg s3]at h
 have k3:(t.sort==3)=false:=by have:¬t.sort=3:=s3;simpa using this
 by_cases s2:qc3 (t::r)=2
 ·rw[if_pos s2]at h
  cases h
  refine⟨hT.tail (by rw[show t.sort=2 from s2];decide),?_⟩
  obtain⟨E,e1,e2⟩:=qk4 t ts' d
  have k2:(t.sort==2)=true:=by have:t.sort=2:=s2;simpa using this
  refine qa6 rfl Tryz.func271 rfl (by kernel_rfl) (m:=53) rfl ?_;simp only[Z3,simprocAttr,Tryz.f271,qgz,effs,qe0,k3,k2,e1,e2]
  exact qe1 (ts:=ts') (d:=d) (.inl rfl) rfl rfl (mk_c 3 t.text 0 [] [] .full .full) rfl rfl
 rw[if_neg s2]at h
 have k2:(t.sort==2)=false:=by have:¬t.sort=2:=s2;simpa using this
 by_cases s1:qc3 (t::r)=1
 ·rw[if_pos s1]at h
  have hTr:=hT.tail (by rw[show t.sort=1 from s1];decide)
  have k1:(t.sort==1)=true:=by have:t.sort=1:=s1;simpa using this
  simp only at h
  have key:TsOk ts'∧RdE 286 [] (t::r) d e ts':=by
   cases hc:(hasS [91] r||hasS [40] r)
   ·rw[hc]at h
    cases h
    exact⟨hTr,pvar_c hTr s1 hc⟩
   ·rw[hc]at h
    exact pcall_c hR hLen hTr s1 hc h
  refine⟨key.1,?_⟩
  obtain⟨E,e1,e2⟩:=key.2.m rfl
  refine qa6 rfl Tryz.func271 rfl (by kernel_rfl) (m:=53) rfl ?_;simp only[Z3,simprocAttr,Tryz.f271,qgz,effs,qe0,k3,k2,k1,e1,e2]
  exact qe1 (ts:=ts') (d:=d) (.inl rfl) rfl rfl (qh9 e) rfl rfl
 rw[if_neg s1]at h
 have k1:(t.sort==1)=false:=by have:¬t.sort=1:=s1;simpa using this
 by_cases h1:hasS [116,114,117,101] (t::r)=true
 ·rw[if_pos h1]at h
  cases h
  obtain⟨_,_,hc,hTr,_,_⟩:=hT.hasS h1
  cases hc
  refine⟨hTr,?_⟩
  obtain⟨E,e1,e2⟩:=qda _ t r d h1
  refine qa6 rfl Tryz.func271 rfl (by kernel_rfl) (m:=53) rfl ?_;simp only[Z3,simprocAttr,Tryz.f271,qgz,effs,qe0,k3,k2,k1,e1,e2]
  exact qe1 (ts:=r) (d:=d) (.inl rfl) rfl rfl (mk_c 2 [] 1 [] [] .full .full) rfl rfl
 rw[if_neg h1]at h
 have t1:=qev [116,114,117,101] (by decide) t r d (wb.2 h1)
 by_cases h2:hasS [102,97,108,115,101] (t::r)=true
 ·rw[if_pos h2]at h
  cases h
  obtain⟨_,_,hc,hTr,_,_⟩:=hT.hasS h2
  cases hc
  refine⟨hTr,?_⟩
  obtain⟨E,e1,e2⟩:=qda _ t r d h2
  refine qa6 rfl Tryz.func271 rfl (by kernel_rfl) (m:=53) rfl ?_;simp only[Z3,simprocAttr,Tryz.f271,qgz,effs,qe0,k3,k2,k1,t1,e1,e2]
  exact qe1 (ts:=r) (d:=d) (.inl rfl) rfl rfl (mk_c 2 [] 0 [] [] .full .full) rfl rfl
 rw[if_neg h2]at h
 have t2:=qev [102,97,108,115,101] (by decide) t r d (wb.2 h2)
 by_cases h3:hasS [109,101,114,103,101] (t::r)=true
 ·rw[if_pos h3]at h
  obtain⟨_,_,hc,hTr,_,_⟩:=hT.hasS h3
  cases hc
  obtain⟨hT',ga⟩:=hA _ _ _ _ hTr h
  refine⟨hT',?_⟩
  obtain⟨E,e1,e2⟩:=qda _ t r d h3
  obtain⟨E',u1,u2⟩:=ga.m rfl
  refine qa6 rfl Tryz.func271 rfl (by kernel_rfl) (m:=53) rfl ?_;simp only[Z3,simprocAttr,Tryz.f271,qgz,effs,qe0,k3,k2,k1,t1,t2,e1,e2,u1,u2]
  exact qe1 (ts:=ts') (d:=d) (.inl rfl) rfl rfl (qh9 e) rfl rfl
 rw[if_neg h3]at h
 have t3:=qev [109,101,114,103,101] (by decide) t r d (wb.2 h3)
 by_cases h4:hasS [109,97,116,99,104] (t::r)=true
 ·rw[if_pos h4]at h
  obtain⟨_,_,hc,hTr,_,_⟩:=hT.hasS h4
  cases hc
  obtain⟨hT',ga⟩:=hA _ _ _ _ hTr h
  refine⟨hT',?_⟩
  obtain⟨E,e1,e2⟩:=qda _ t r d h4
  obtain⟨E',u1,u2⟩:=ga.m rfl
  refine qa6 rfl Tryz.func271 rfl (by kernel_rfl) (m:=53) rfl ?_;simp only[Z3,simprocAttr,Tryz.f271,qgz,effs,qe0,k3,k2,k1,t1,t2,t3,e1,e2,u1,u2]
  exact qe1 (ts:=ts') (d:=d) (.inl rfl) rfl rfl (qh9 e) rfl rfl
 rw[if_neg h4]at h
 have t4:=qev [109,97,116,99,104] (by decide) t r d (wb.2 h4)
 obtain⟨w1,h⟩:=qa5 h
 obtain⟨_,_,hc,hTr,_,_⟩:=hT.hasS w1
 cases hc
 obtain⟨x,ts1,hx,h⟩:=PR.bind_ok h
 obtain⟨hT1,gx⟩:=qds hR hTr hx
 obtain⟨w2,h⟩:=qa5 h
 obtain⟨t5,r5,rfl,hT5,_,_⟩:=hT1.hasS w2
 cases h
 refine⟨hT5,?_⟩
 obtain⟨E1,a1,a2⟩:=qbr _ t r d w1
 obtain⟨E2,b1,b2⟩:=gx.m rfl
 obtain⟨E3,c1,c2⟩:=qbr _ t5 r5 d w2
 refine qa6 rfl Tryz.func271 rfl (by kernel_rfl) (m:=53) rfl ?_;simp only[Z3,simprocAttr,Tryz.f271,qgz,effs,qe0,k3,k2,k1,t1,t2,t3,t4,a1,a2,b1,b2,c1,c2]
 exact qe1 (ts:=r5) (d:=d) (.inl rfl) rfl rfl (qh9 _) rfl rfl
end Go.Ab
