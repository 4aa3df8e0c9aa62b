/- The parser gives up: operators. -/
import Derived.Test.YtngklkmeknmloaaGreatDoorAbPsLen
set_option linter.unusedSimpArgs false
set_option linter.unusedVariables false
set_option maxRecDepth 100000
set_option maxHeartbeats 4000000
open Go.Proofs
open List renaming length_cons→wa,length_nil→wc,getElem?_cons_succ→wd,getElem?_cons_zero→we,tail_cons→wf,length_append→wg,append_assoc→wh,not_mem_nil→wi,mem_cons→wk,getD_eq_getElem?_getD→wq,getElem?_eq_some_iff→wt,cons_append→wu,nil_append→wv,getElem?_set_self→ww,singleton_append→wz,getElem?_set_ne→w6,length_map→w8,map_append→w9,mem_map→waa
open Bool renaming eq_false_iff→wb,not_false→wj,and_true→wm,or_true→wo
open Nat renaming le_refl→w7
namespace Go.Ab
open Go Go.Ab.Tab
theorem q2c {R:Rd} (hR:HypE R) (hLen:LenR R) {m:Nat} {ts ts':List PTok} {x:PNode} (hT:TsOk ts) (h:qij m R ts= .ok x ts'):ts'.length<ts.length:=by
 unfold qij at h
 obtain⟨t,r,rfl,hs,k1⟩:=qbz h
 have hTr:=hT.tail (by rw[hs];decide)
 obtain⟨fs,ts1,hf,k2⟩:=PR.bind_ok k1
 have hF:TsOk ts1∧ts1.length≤r.length:=by
  split at hf
  ·exact⟨(qec (d:=0) hTr hf).1,qmm hf⟩
  ·cases hf;exact⟨hTr,w7 _⟩
 obtain⟨is,ts2,hi,k3⟩:=PR.bind_ok k2
 have e2:=qmm hi
 have hI:=(qec (d:=0) hF.1 hi).1
 obtain⟨w1,k4⟩:=qa5 k3
 obtain⟨t1,r1,rfl,hT1,_,_⟩:=hI.hasS w1
 rw[wf]at k4
 obtain⟨os,ts3,ho,k5⟩:=PR.bind_ok k4
 have e3:=qmm ho
 have hO:=(qec (d:=0) hT1 ho).1
 obtain⟨w2,k6⟩:=qa5 k5
 obtain⟨t2,r2,rfl,hT2,_,_⟩:=hO.hasS w2
 rw[wf]at k6
 obtain⟨its,ts4,hl4,k7⟩:=PR.bind_ok k6
 have e4:=(qmn hR hLen _ _ _ _ hT2 hl4).2
 obtain⟨r5,k8,e5⟩:=qc5 k7
 cases k8
 have:=hF.2
 simp only[wa]at*
 omega
structure PgSt where
 n:Nat
 ea:List PEnum
 na:List PNode
 va:AVal
 vb:AVal
 ts:List PTok
theorem prog_c {R:Rd} (hR:HypE R) (hLen:LenR R) {m n:Nat} {ts ts':List PTok} {p:PProg} (hT:TsOk ts) (h:qcw R m n ts= .ok p ts'):
 qbi C 37 [.ptr 0 0] [.box (pbox ts 0)] (.agg p.cells) [.box (pbox ts' 0)]:=by
 have hle:=hT.le
 refine qa6 rfl Tryz.func37 rfl (by kernel_rfl) (m:=27) rfl ?_;simp only[Z3,simprocAttr,Tryz.f37,qjq,effs]
 generalize hb:qam PP cmp0 C lpC _=f;generalize hl:lpC f _=r
 obtain⟨ex,s',rfl,rfl,h2⟩:=qch (α:=PgSt) hl [4,5,6,7,8,9,10,11,12,13,14,15,16,17,18,19,20,21,22,23,24,25,26] (fun _=>[]) (fun a h=>h[0]? =some (.box (pbox a.ts 0))∧h[1]? =some (.box [.slice [] .full,.slice [] .full])∧h[2]? =some (.box [a.va,a.vb])∧Grow2 h a.va (a.ea.map PEnum.cells) 67∧Grow2 h a.vb (a.na.map PNode.cells) 60∧TsOk a.ts∧a.ea.length+a.na.length+a.ts.length≤65538∧(qcw R m a.n a.ts).bind (fun p2 ts2=> .ok ⟨a.ea++p2.enums,a.na++p2.nodes⟩ ts2)= .ok p ts') (fun a=>a.n) (fun _=>())
  (fun ts _ ex s=>ex= .exit 0∧OutT [4,5,6,7,8,9,10,11,12,13,14,15,16,17,18,19,20,21,22,23,24,25,26] ts [] (fun h=>h[0]? =some (.box (pbox ts' 0))∧h[1]? =some (.box [.slice [] .full,.slice [] .full])∧∃ta tb,h[2]? =some (.box [.slice (p.enums.map PEnum.cells) ta,.slice (p.nodes.map PNode.cells) tb])) s) ⟨n,[],[],.slice [] .full,.slice [] .full,ts⟩ ⟨rfl,rfl,rfl,.inl rfl,.inl rfl,hT,by simp only[wc];omega,by rw[h];rfl⟩ (by simp only[AtT,ats]) (by
   rintro⟨n,ea,na,va,vb,ts⟩ j G dd ⟨q0,q1,q2,ga,gb,hTs,hln,hp⟩
   clear hl;subst hb
   simp only at q0 q1 q2 ga gb hTs hln hp ⊢
   obtain⟨ta,hva⟩:=ga.val
   obtain⟨tb,hvb⟩:=gb.val
   subst hva hvb
   obtain⟨tt,rt,rfl⟩:=hTs.ne
   have cn:=qcf (c:=C) (b:=0) (H:=G) (rest:=[]) rfl q0 (qaa _ _) (next_c tt rt 0) (PTok.norefs _)
   have cn2:qai C G 51 [.ptr 0 0]=some (.ret (.agg [.int .i64 tt.sort,.str tt.text,.int .i64 tt.n,.int .i64 tt.line,.int .i64 tt.col]) .same):=cn
   cases n with
   |zero=>cases hp
   |succ n=>
    obtain⟨p2,ts2',hp1,hp2⟩:=PR.bind_ok hp
    simp only[qcw]at hp1
    by_cases h6:tt.sort=6
    ·rw[if_pos (show qc3 (tt::rt)=6 from h6)]at hp1
     cases hp1
     cases hp2
     have d6:(tt.sort !=6)=false:=by rw[h6];rfl
     simp only[Z3,simprocAttr,effs,qjq,cn2,d6]
     exact .inr ⟨_,_,rfl,by simp,rfl,by simp only[OutT,AtT,ats],q0,q1,ta,tb,by simpa using q2⟩
    ·have h6':¬qc3 (tt::rt)=6:=h6
     rw[if_neg h6']at hp1
     have d6:(tt.sort !=6)=true:=by simpa using h6
     by_cases hh:hasS [116,121,112,101] (tt::rt)=true
     ·rw[if_pos hh]at hp1
      obtain⟨_,_,hc,hTr,_,_⟩:=hTs.hasS hh
      cases hc
      rw[wf]at hp1
      obtain⟨x,t1,h1,k1⟩:=PR.bind_ok hp1
      obtain⟨p3,t3,h3,k3⟩:=PR.bind_ok k1
      cases k3
      cases hp2
      obtain⟨hT1,gx⟩:=enum_c hTr h1
      have hlt:=q2b h1
      obtain⟨E1,G1,c1,s1⟩:=stp q0 (qem [116,121,112,101] tt rt 0 hh) rfl (qaa _ _) (qaa _ _) rfl
      obtain⟨E2,G2,c2,s2⟩:=stp s1.p0 gx rfl (qaa _ _) (qaa _ _) (by simp only[refs];exact x.norefs)
      have b1:=s1.box 2 _ (by decide) q2
      have b2:=s2.box 2 _ (by decide) b1
      have z2:=s2.box 1 _ (by decide) (s1.box 1 _ (by decide) q1)
      have fr:=s2.free (by decide) b1
      obtain⟨tk2,E3,ha,gr⟩:=grw qkq 0 (fs:=[x.cells]) b2 (s2.grow _ _ _ (s1.grow _ _ _ ga)) (by simp only[w8,wa,wc]at hln ⊢;unfold qac;omega) (by intro c hc;obtain⟨x,_,rfl⟩:=waa.1 hc;exact x.len) (by intro c hc;simp only[wk,wi,or_false]at hc;subst hc;exact x.len) (by simp)
      have o1:=s1.of
      have o2:=s2.of
      have o3:=gr.at1
      have d1:=qfq b1
      have d2:decide (G1.length≤G2.length)=true:=decide_eq_true (by rw[s2.len];exact w7 _)
      have d3:decide (G1.length≤(E3.of G2).length)=true:=decide_eq_true (by rw[←s2.len];exact gr.len)
      simp only[Z3,simprocAttr,effs,qjq,cn2,d6,c1,o1,b1,d1,c2,o2,qvp,ha,o3,d2,d3]
      rw[qcr]
      ·refine .inl ⟨⟨n,ea++[x],na,.slice (ea.map PEnum.cells++[x.cells]) tk2,.slice (na.map PNode.cells) tb,t1⟩,_,rfl,⟨gr.box 0 _ (by decide) s2.p0,gr.box 1 _ (by decide) z2,gr.at2,?_,gr.other _ _ _ (by decide) (s2.grow _ _ _ (s1.grow _ _ _ gb)),hT1,?_,?_⟩,by simp only[AtT,ats],by simp only[];omega,trivial⟩
       ·rw[w9];exact gr.grow
       ·simp only[wg,wa,wc]at hln hlt ⊢;omega
       ·simp only[h3,PR.bind,wh,wz]
      ·kernel_rfl
      ·simp only[qaj,qbx,qae,qcp,fr,wj,wo,wm,wd,we]
     ·rw[if_neg hh]at hp1
      have ct:=qcf (c:=C) (b:=0) (H:=G) (rest:=[.str [116,121,112,101]]) rfl q0 (qaa _ _) (qhx [116,121,112,101] (by decide) tt rt 0 (wb.2 hh)) rfl
      obtain⟨w1,k0⟩:=qa5 hp1
      obtain⟨_,_,hc,hTr,_,_⟩:=hTs.hasS w1
      cases hc
      rw[wf]at k0
      obtain⟨x,t1,h1,k1⟩:=PR.bind_ok k0
      obtain⟨p3,t3,h3,k3⟩:=PR.bind_ok k1
      cases k3
      cases hp2
      obtain⟨hT1,gx⟩:=node_nd hR hLen hTr h1
      have hlt:=q2c hR hLen hTr h1
      obtain⟨E1,G1,c1,s1⟩:=stp q0 (qhg [110,111,100,101] tt rt 0 w1) rfl (qaa _ _) (qaa _ _) rfl
      obtain⟨E2,G2,c2,s2⟩:=stp s1.p0 gx rfl (qaa _ _) (qaa _ _) (by simp only[refs];exact x.norefs)
      have b1:=s1.box 2 _ (by decide) q2
      have b2:=s2.box 2 _ (by decide) b1
      have z2:=s2.box 1 _ (by decide) (s1.box 1 _ (by decide) q1)
      have fr:=s2.free (by decide) b1
      obtain⟨tk2,E3,ha,gr⟩:=grw qkr 1 (fs:=[x.cells]) b2 (s2.grow _ _ _ (s1.grow _ _ _ gb)) (by simp only[w8,wa,wc]at hln ⊢;unfold qac;omega) (by intro c hc;obtain⟨x,_,rfl⟩:=waa.1 hc;exact x.len) (by intro c hc;simp only[wk,wi,or_false]at hc;subst hc;exact x.len) (by simp)
      have o1:=s1.of
      have o2:=s2.of
      have o3:=gr.at1
      have d1:=qfq b1
      have d2:decide (G1.length≤G2.length)=true:=decide_eq_true (by rw[s2.len];exact w7 _)
      have d3:decide (G1.length≤(E3.of G2).length)=true:=decide_eq_true (by rw[←s2.len];exact gr.len)
      simp only[Z3,simprocAttr,effs,qjq,cn2,d6,ct,c1,o1,b1,d1,c2,o2,qvo,ha,o3,d2,d3]
      rw[qcr]
      ·refine .inl ⟨⟨n,ea,na++[x],.slice (ea.map PEnum.cells) ta,.slice (na.map PNode.cells++[x.cells]) tk2,t1⟩,_,rfl,⟨gr.box 0 _ (by decide) s2.p0,gr.box 1 _ (by decide) z2,gr.at2,gr.other _ _ _ (by decide) (s2.grow _ _ _ (s1.grow _ _ _ ga)),?_,hT1,?_,?_⟩,by simp only[AtT,ats],by simp only[];omega,trivial⟩
       ·rw[w9];exact gr.grow
       ·simp only[wg,wa,wc]at hln hlt ⊢;omega
       ·simp only[h3,PR.bind,wh,wz]
      ·kernel_rfl
      ·simp only[qaj,qbx,qae,qcp,fr,wj,wo,wm,wd,we])
 obtain⟨j,H,dd,hI,rfl⟩:=h2.elim
 clear hl
 have i0:=hI.1
 have i1:=hI.2.1
 obtain⟨tw,tv,i2⟩:=hI.2.2
 clear hI h2
 simp only[Z3,simprocAttr,effs,qjq,i1,i2]
 have l1:=(wt.1 i1).1
 have hb0:∀y,(H.set 1 y)[0]? =some (.box (pbox ts' 0)):=fun y=>by rw[w6 (by decide)];exact i0
 exact qrq (T:=26) (k:=2) (b:=1) qlw qlv (ts:=ts') (d:=0) (.inl rfl) rfl (ww l1) rfl rfl rfl (hb0 _) (qoz (hb0 _))
end Go.Ab
namespace Go.Ab
open Go Go.Ab.Tab
def qk7 (e:Int) (t:PTok):AVal:= .iface 29 (.agg [.int .i64 e,.int .i64 t.line,.int .i64 t.col])
theorem qti (e:Int) (t:PTok) (r:List PTok) (d:Nat):Pans C 52 [.ptr 0 0,.int .i64 e] [.box (pbox (t::r) d)] (qk7 e t):=by
 refine qao rfl Tryz.func52 rfl (by kernel_rfl) (m:=11) rfl rfl ?_;simp only[Z3,simprocAttr,Tryz.f52,effs,pans,fx_52,qe0]
 exact qah
theorem metP {f:FuncId} {rest x:List AVal} {v:AVal} (g:Pans C f (.ptr 0 0::rest) [.box x] v) (hr:qad rest=[]∨qad rest=[0]) (px:qad x=[]) (hv:refs v=[]):∃E:qab→Eff,∀H,qai C (.box x::H) f (.ptr 0 0::rest)=some (.pan v (E H)):=by
 have h:∀H,∃e:Eff,qai C (.box x::H) f (.ptr 0 0::rest)=some (.pan v e):=by
  intro H
  have ha:qad (.ptr 0 0::rest)=[0]∨qad (.ptr 0 0::rest)=[0,0]:=by
   rcases hr with hr|hr
   ·exact .inl (by simp[qad,refs,hr])
   ·exact .inr (by simp[qad,refs,hr])
  have e1:subH (.box x::H) [0]=[.box x]:=by simp[subH,renB,qbs px]
  have e2:renL (fun x=>[0].idxOf x) (.ptr 0 0::rest)= .ptr 0 0::rest:=qco _ (by rcases ha with ha|ha<;>(rw[ha];simp))
  refine qm4 [0] ?_ ?_ (by rw[e1,e2];exact g) hv
  ·rcases ha with ha|ha<;>(rw[ha];simp[qbv,px])
  ·unfold qc2
   rcases ha with ha|ha<;>(rw[ha];simp[qdq,px])
 exact⟨fun H=>(h H).choose,fun H=>(h H).choose_spec⟩
theorem stpP {f:FuncId} {rest x:List AVal} {v:AVal} {H:qab} (q0:H[0]? =some (.box x)) (g:Pans C f (.ptr 0 0::rest) [.box x] v) (hr:qad rest=[]∨qad rest=[0]) (px:qad x=[]) (hv:refs v=[]):
 ∃E,qai C H f (.ptr 0 0::rest)=some (.pan v E):=by
 obtain⟨T,rfl⟩:=qzv q0
 obtain⟨E,h⟩:=metP g hr px hv
 exact⟨E T,h T⟩
theorem word_p (k:Int) (t:PTok) (r:List PTok) (d:Nat) (h:t.sort≠k):Pans C 197 [.ptr 0 0,.int .i64 k] [.box (pbox (t::r) d)] (qk7 3 t):=by
 obtain⟨E,e1⟩:=metP (qti 3 t r d) (.inl rfl) (qaa _ _) rfl
 have hn:(t.sort !=k)=true:=by simpa using h
 refine qao rfl Tryz.func197 rfl (by kernel_rfl) (m:=16) rfl rfl ?_;simp only[Z3,simprocAttr,Tryz.f197,effs,pans,fx_197,qe0,hn,e1]
 exact qah
theorem qb8 (s:Str) (hs:s≠[]) (t:PTok) (r:List PTok) (d:Nat) (h:hasS s (t::r)=false):Pans C 78 [.ptr 0 0,.slice [[.str s]] .full] [.box (pbox (t::r) d)] (qk7 3 t):=by
 obtain⟨E,e1⟩:=metP (qti 3 t r d) (.inl rfl) (qaa _ _) rfl
 have ta:=qev s hs t r d h
 refine qao rfl Tryz.func78 rfl (by kernel_rfl) (m:=17) rfl rfl ?_;simp only[Z3,simprocAttr,Tryz.f78,effs,pans,qig,ta,e1]
 have d1:decide ((0:Int)<((1:Nat):Int))=true:=rfl
 have g0:([[AVal.str s]]:List (List AVal))[0]? =some [.str s]:=rfl
 rw[qh1]
 simp only[Z3,simprocAttr,effs,pans,qig,ta,e1,d1,g0]
 exact qah
theorem qmo (t:PTok) (r:List PTok) (d:Nat) (h:t.sort≠1):Pans C 132 [.ptr 0 0] [.box (pbox (t::r) d)] (qk7 3 t):=by
 obtain⟨E,e1⟩:=metP (word_p 1 t r d h) (.inl rfl) (qaa _ _) rfl
 refine qao rfl Tryz.func132 rfl (by kernel_rfl) (m:=4) rfl rfl ?_;simp only[Z3,simprocAttr,Tryz.f132,effs,pans,fx_132,e1]
 exact qah
theorem qrv (t:PTok) (r:List PTok) (d:Nat) (h:t.sort≠2):Pans C 134 [.ptr 0 0] [.box (pbox (t::r) d)] (qk7 3 t):=by
 obtain⟨E,e1⟩:=metP (word_p 2 t r d h) (.inl rfl) (qaa _ _) rfl
 refine qao rfl Tryz.func134 rfl (by kernel_rfl) (m:=4) rfl rfl ?_;simp only[Z3,simprocAttr,Tryz.f134,effs,pans,fx_134,e1]
 exact qah
def qa9 (e:Int):List PTok→AVal
 |t::_=>qk7 e t
 |[]=> .iface 29 (.agg [.int .i64 e,.int .i64 0,.int .i64 0])
theorem qap (e:Int) (ts:List PTok):refs (qa9 e ts)=[]:=by cases ts<;>rfl
theorem qaf (e:Int) (ts:List PTok):strip3 (qa9 e ts)=qa9 e ts:=by cases ts<;>rfl
theorem PR.bind_bad {α β:Type} {x:PR α} {k:α→List PTok→PR β} {e:Int} {ts:List PTok} (h:x.bind k= .bad e ts):x= .bad e ts∨∃a t1,x= .ok a t1∧k a t1= .bad e ts:=by
 cases x with
 |ok a t1=>exact .inr ⟨a,t1,rfl,h⟩
 |bad e1 t1=>exact .inl (by cases h;rfl)
 |out=>cases h
theorem qd3 {β:Type} {n:Int} {ts ts':List PTok} {k:Str→List PTok→PR β} {e:Int} (hT:TsOk ts) (h:qdf n ts k= .bad e ts'):∃t r,ts=t::r∧((t.sort≠n∧e=3∧ts'=t::r)∨(t.sort=n∧k t.text r= .bad e ts')):=by
 obtain⟨t,r,rfl⟩:=hT.ne
 refine⟨t,r,rfl,?_⟩
 simp only[qdf]at h
 split at h
 ·rename_i hs
  exact .inr ⟨by simpa using hs,h⟩
 ·rename_i hs
  cases h
  exact .inl ⟨by simpa using hs,rfl,rfl⟩
theorem qa8 {β:Type} {s:Str} {ts ts':List PTok} {k:List PTok→PR β} {e:Int} (hT:TsOk ts) (h:qbe s ts k= .bad e ts'):∃t r,ts=t::r∧((hasS s (t::r)=false∧e=3∧ts'=t::r)∨(hasS s (t::r)=true∧TsOk r∧k r= .bad e ts')):=by
 obtain⟨t,r,rfl⟩:=hT.ne
 refine⟨t,r,rfl,?_⟩
 unfold qbe at h
 split at h
 ·rename_i hs
  obtain⟨_,_,hc,hr,_,_⟩:=hT.hasS hs
  cases hc
  exact .inr ⟨hs,hr,h⟩
 ·rename_i hs
  cases h
  exact .inl ⟨wb.2 hs,rfl,rfl⟩
theorem listS_p {k:Int} {g:FuncId} (hk6:k≠6) (d:Nat) (hg:∀t r,t.sort=k→qbi C g [.ptr 0 0] [.box (pbox (t::r) d)] (.str t.text) [.box (pbox r d)]) (hgp:∀t r,t.sort≠k→Pans C g [.ptr 0 0] [.box (pbox (t::r) d)] (qk7 3 t)) (sep:Str) (hsep:sep≠[]) {n:Nat} {ts ts':List PTok} {e:Int} (hT:TsOk ts) (h:qfx k sep n ts= .bad e ts'):
 Pans C 133 [.ptr 0 0,.str sep,.func g [.ptr 0 0] []] [.box (pbox ts d)] (qa9 e ts'):=by
 cases n with
 |zero=>cases h
 |succ n=>
  simp only[qfx]at h
  obtain⟨t,rt,rfl,⟨hs,rfl,rfl⟩|⟨hs,h⟩⟩:=qd3 hT h
  ·obtain⟨E,e1⟩:=metP (hgp t rt hs) (.inl rfl) (qaa _ _) rfl
   refine qao rfl Tryz.func133 rfl (by kernel_rfl) (m:=17) rfl rfl ?_;simp only[Z3,simprocAttr,Tryz.f133,effs,pans,qks,e1]
   exact qah
  obtain⟨E,e1,e2⟩:=met (hg t rt hs) rfl (qaa _ _) (qaa _ _) rfl
  have hTr:=hT.tail (by rw[hs];exact hk6)
  have hle:=hTr.le
  refine qao rfl Tryz.func133 rfl (by kernel_rfl) (m:=17) rfl (qaf _ _) ?_
  simp only[Z3,simprocAttr,Tryz.f133,effs,pans,qks,e1,e2]
  generalize hb:qam PP cmp0 C lpC _=f;generalize hl:lpC f _=r
  obtain⟨ex,s',rfl,rfl⟩:=qch (α:=ListSt) hl [11,12,13,14,15,16,17,18] (fun a=>[(7,a.v)]) (fun a h=>h[0]? =some (.box (pbox a.ts d))∧Grow2 h a.v (a.acc.map fun s=>[.str s]) 9∧TsOk a.ts∧a.acc.length+a.ts.length≤65538∧(if hasS sep a.ts=true then(qfx k sep a.n a.ts.tail).bind fun l2 ts2=> .ok (a.acc++l2) ts2 else .ok a.acc a.ts)= .bad e ts') (fun a=>a.n) (fun _=>())
   (fun ts _ ex s=>ex= .pan (qa9 e ts')) ⟨n,[t.text],.slice [[.str t.text]] .full,rt⟩ ⟨rfl,.inl rfl,hTr,by simp only[wa,wc];omega,h⟩ (by simp only[AtT,ats]) (by
    rintro⟨n,acc,v,ts⟩ j G dd ⟨q0,hgr,hTs,hln,hp⟩
    clear hl;subst hb
    simp only at q0 hgr hTs hln hp ⊢
    obtain⟨t,rt,rfl⟩:=hTs.ne
    cases hh:hasS sep (t::rt)
    ·rw[hh]at hp
     cases hp
    ·rw[hh]at hp
     simp only[if_true,wf]at hp
     cases n with
     |zero=>cases hp
     |succ n=>
      obtain⟨_,_,hc,hTr,_,_⟩:=hTs.hasS hh
      cases hc
      obtain⟨E1,G1,c1,s1⟩:=stp q0 (qem sep t rt d hh) rfl (qaa _ _) (qaa _ _) rfl
      have o1:=s1.of
      rcases PR.bind_bad hp with h2|⟨l2,ts2,_,h2⟩
      ·simp only[qfx]at h2
       obtain⟨t2,r2,rfl,⟨hs2,rfl,rfl⟩|⟨hs2,h2⟩⟩:=qd3 hTr h2
       ·obtain⟨E2,c2⟩:=stpP s1.p0 (hgp t2 r2 hs2) (.inl rfl) (qaa _ _) rfl
        simp only[Z3,simprocAttr,effs,pans,qks,c1,o1,c2]
        exact .inr ⟨_,_,rfl,by simp,rfl⟩
       ·obtain⟨E2,G2,c2,s2⟩:=stp s1.p0 (hg t2 r2 hs2) rfl (qaa _ _) (qaa _ _) rfl
        have o2:=s2.of
        have hlen:acc.length+1≤qac:=by
         simp only[wa]at hln
         unfold qac;omega
        obtain⟨v3,E3,ha3,gg3,hB3⟩:=qkc qgx (fs:=[[.str t2.text]]) (s2.grow _ _ _ (s1.grow _ _ _ hgr)) (by simpa using hlen) (strs1 acc) (by intro c hc;simp only[wk,wi,or_false]at hc;subst hc;rfl) (by simp)
        have p3:=hB3 _ _ s2.p0
        simp only[Z3,simprocAttr,effs,pans,qks,c1,o1,c2,o2,ha3]
        refine .inl ⟨⟨n,acc++[t2.text],v3,r2⟩,_,rfl,⟨p3,by simpa using gg3,hTr.tail (by rw[hs2];exact hk6),?_,?_⟩,by simp only[AtT,ats],by simp only[];omega,trivial⟩
        ·simp only[wg,wa,wc]at hln ⊢;omega
        ·split at h2
         ·rename_i hh3
          rw[if_pos hh3]
          rcases PR.bind_bad h2 with h3|⟨_,_,_,h3⟩
          ·rw[h3];rfl
          ·cases h3
         ·cases h2
      ·cases h2)
  clear hl
  simp only[Z3,simprocAttr,effs,pans,qks]
  exact qah
end Go.Ab
namespace Go.Ab
open Go Go.Ab.Tab
theorem qll {m:Nat} {opn cls:Str} (ho:opn≠[]) (hcl:cls≠[]) {d:Nat} {ts ts':List PTok} {e:Int} (hT:TsOk ts) (h:qfw m opn cls ts= .bad e ts'):
 Pans C 135 [.ptr 0 0,.str opn,.str cls] [.box (pbox ts d)] (qa9 e ts'):=by
 unfold qfw at h
 obtain⟨t,r,rfl,⟨hs,rfl,rfl⟩|⟨w1,hTr,h⟩⟩:=qa8 hT h
 ·obtain⟨E,e1⟩:=metP (qb8 opn ho t r d hs) (.inl rfl) (qaa _ _) rfl
  refine qao rfl Tryz.func135 rfl (by kernel_rfl) (m:=18) rfl (qaf _ _) ?_;simp only[Z3,simprocAttr,Tryz.f135,effs,pans,qxf,e1]
  exact qah
 obtain⟨E1,a1,a2⟩:=qbr _ t r d w1
 rcases PR.bind_bad h with h1|⟨l,ts1,h1,h2⟩
 ·obtain⟨E,e1⟩:=metP (listS_p (by decide) d (fun t r hs=>qdy t r d hs) (fun t r hs=>qmo t r d hs) [44] (by decide) hTr h1) (.inr rfl) (qaa _ _) (qap _ _)
  refine qao rfl Tryz.func135 rfl (by kernel_rfl) (m:=18) rfl (qaf _ _) ?_;simp only[Z3,simprocAttr,Tryz.f135,effs,pans,qxf,a1,a2,e1]
  exact qah
 obtain⟨hT1,g1⟩:=qut (by decide) d (fun t r hs=>qdy t r d hs) [44] (by decide) hTr h1
 obtain⟨E2,b1,b2⟩:=met4 g1 rfl (qaa _ _) (qaa _ _) rfl
 obtain⟨t2,r2,rfl,⟨hs,rfl,rfl⟩|⟨_,_,h3⟩⟩:=qa8 hT1 h2
 ·obtain⟨E,e1⟩:=metP (qb8 cls hcl t2 r2 d hs) (.inl rfl) (qaa _ _) rfl
  refine qao rfl Tryz.func135 rfl (by kernel_rfl) (m:=18) rfl (qaf _ _) ?_;simp only[Z3,simprocAttr,Tryz.f135,effs,pans,qxf,a1,a2,b1,b2,e1]
  exact qah
 ·cases h3
def BadE (R:Rd):Prop:=∀(o least:Nat) (ts:List PTok) (e:Int) (ts':List PTok),TsOk ts→R o least ts= .bad e ts'→(least=0→Pans C 151 [.ptr 0 0] [.box (pbox ts o)] (qa9 e ts'))∧(0<least→Pans C 99 [.ptr 0 0,.int .i64 least] [.box (pbox ts o)] (qa9 e ts'))
theorem qjl {R:Rd} (hB:BadE R) {o:Nat} {ts ts':List PTok} {e:Int} (hT:TsOk ts) (h:R o 1 ts= .bad e ts'):Pans C 50 [.ptr 0 0] [.box (pbox ts o)] (qa9 e ts'):=by
 have g:Pans C 99 [.ptr 0 0,.int .i64 1] [.box (pbox ts o)] (qa9 e ts'):=(hB _ _ _ _ _ hT h).2 (by decide)
 obtain⟨E,e1⟩:=metP g (.inl rfl) (qaa _ _) (qap _ _)
 refine qao rfl Tryz.func50 rfl (by kernel_rfl) (m:=4) rfl (qaf _ _) ?_;simp only[Z3,simprocAttr,Tryz.f50,effs,pans,fx_50,e1]
 exact qah
theorem listE_p {R:Rd} (hR:HypE R) (hB:BadE R) (hLen:LenR R) (d:Nat) {n:Nat} {ts ts':List PTok} {e:Int} (hT:TsOk ts) (h:qej R d n ts= .bad e ts'):
 Pans C 297 [.ptr 0 0,.str [44],.func 50 [.ptr 0 0] []] [.box (pbox ts d)] (qa9 e ts'):=by
 cases n with
 |zero=>cases h
 |succ n=>
  simp only[qej]at h
  rcases PR.bind_bad h with h0|⟨e0,rt,h0,h1⟩
  ·obtain⟨E,e1⟩:=metP (qjl hB hT h0) (.inl rfl) (qaa _ _) (qap _ _)
   refine qao rfl Tryz.func297 rfl (by kernel_rfl) (m:=17) rfl (qaf _ _) ?_;simp only[Z3,simprocAttr,Tryz.f297,effs,pans,qkv,e1]
   exact qah
  obtain⟨hTr,x0⟩:=qds hR hT h0
  obtain⟨E,e1,e2⟩:=x0.m rfl
  have hle:=hTr.le
  refine qao rfl Tryz.func297 rfl (by kernel_rfl) (m:=17) rfl (qaf _ _) ?_;simp only[Z3,simprocAttr,Tryz.f297,effs,pans,qkv,e1,e2]
  generalize hb:qam PP cmp0 C lpC _=f;generalize hl:lpC f _=r
  obtain⟨ex,s',rfl,rfl⟩:=qch (α:=ListEt) hl [11,12,13,14,15,16,17,18] (fun a=>[(7,a.v)]) (fun a h=>h[0]? =some (.box (pbox a.ts d))∧Grow2 h a.v (a.acc.map PExpr.cells) 37∧TsOk a.ts∧a.acc.length+a.ts.length≤65538∧(if hasS [44] a.ts=true then(qej R d a.n a.ts.tail).bind fun l2 ts2=> .ok (a.acc++l2) ts2 else .ok a.acc a.ts)= .bad e ts') (fun a=>a.n) (fun _=>())
   (fun ts _ ex s=>ex= .pan (qa9 e ts')) ⟨n,[e0],.slice [e0.cells] .full,rt⟩ ⟨rfl,.inl rfl,hTr,by simp only[wa,wc];omega,by
    simp only
    split at h1
    ·rename_i hh
     rw[if_pos hh]
     rcases PR.bind_bad h1 with h3|⟨_,_,_,h3⟩
     ·rw[h3];rfl
     ·cases h3
    ·cases h1⟩ (by simp only[AtT,ats]) (by
    rintro⟨n,acc,v,ts⟩ j G dd ⟨q0,hgr,hTs,hln,hp⟩
    clear hl;subst hb
    simp only at q0 hgr hTs hln hp ⊢
    obtain⟨t,rt,rfl⟩:=hTs.ne
    cases hh:hasS [44] (t::rt)
    ·rw[hh]at hp
     cases hp
    ·rw[hh]at hp
     simp only[if_true,wf]at hp
     cases n with
     |zero=>cases hp
     |succ n=>
      obtain⟨_,_,hc,hTr,_,_⟩:=hTs.hasS hh
      cases hc
      obtain⟨E1,G1,c1,s1⟩:=stp q0 (qem [44] t rt d hh) rfl (qaa _ _) (qaa _ _) rfl
      have o1:=s1.of
      rcases PR.bind_bad hp with h2|⟨l2,ts2,_,h2⟩
      ·simp only[qej]at h2
       rcases PR.bind_bad h2 with h20|⟨x2,r2,h20,h21⟩
       ·obtain⟨E2,c2⟩:=stpP s1.p0 (qjl hB hTr h20) (.inl rfl) (qaa _ _) (qap _ _)
        simp only[Z3,simprocAttr,effs,pans,qkv,c1,o1,c2]
        exact .inr ⟨_,_,rfl,by simp,rfl⟩
       ·have hlen2:=hLen _ _ _ _ _ h20
        obtain⟨hT2,y2⟩:=qds hR hTr h20
        obtain⟨E2,G2,c2,s2⟩:=stp s1.p0 y2 rfl (qaa _ _) (qaa _ _) (by simp only[refs];exact x2.norefs)
        have o2:=s2.of
        have hlen:acc.length+1≤qac:=by
         simp only[wa]at hln
         unfold qac;omega
        obtain⟨v3,E3,ha3,gg3,hB3⟩:=qkc qie (fs:=[x2.cells]) (s2.grow _ _ _ (s1.grow _ _ _ hgr)) (by simpa using hlen) (exprs5 acc) (by intro c hc;simp only[wk,wi,or_false]at hc;subst hc;exact x2.len) (by simp)
        have p3:=hB3 _ _ s2.p0
        simp only[Z3,simprocAttr,effs,pans,qkv,c1,o1,c2,o2,ha3]
        refine .inl ⟨⟨n,acc++[x2],v3,r2⟩,_,rfl,⟨p3,by simpa using gg3,hT2,?_,?_⟩,by simp only[AtT,ats],by simp only[];omega,trivial⟩
        ·simp only[wg,wa,wc]at hln ⊢;omega
        ·split at h21
         ·rename_i hh3
          rw[if_pos hh3]
          rcases PR.bind_bad h21 with h3|⟨_,_,_,h3⟩
          ·rw[h3];rfl
          ·cases h3
         ·cases h21
      ·cases h2)
  clear hl
  simp only[Z3,simprocAttr,effs,pans,qkv]
  exact qah
end Go.Ab
namespace Go.Ab
open Go Go.Ab.Tab
theorem named_p {m:Nat} {R:Rd} (hR:HypE R) (hB:BadE R) (hLen:LenR R) {d:Nat} {t:PTok} {r ts':List PTok} {e:Int} (hT:TsOk r) (hs:t.sort=1) (hc:(hasS [91] r||hasS [40] r)=true) (h:qii m R d t.text r= .bad e ts'):
 Pans C 286 [.ptr 0 0] [.box (pbox (t::r) d)] (qa9 e ts'):=by
 obtain⟨N1,n1,n2⟩:=met (qdy t r d hs) rfl (qaa _ _) (qaa _ _) rfl
 unfold qii at h
 obtain⟨t1,r1,rfl⟩:=hT.ne
 cases hb:hasS [91] (t1::r1)
 ·rw[hb]at h hc
  simp only[Bool.false_eq_true,if_false,PR.bind,Bool.false_or]at h hc
  have q1:=qg3 (s:=[91]) (by decide) hb
  have q2:=qg2 hc
  obtain⟨_,_,hcc,⟨hx,_⟩|⟨_,hTr,h⟩⟩:=qa8 hT h
  ·cases hcc;rw[hc]at hx;cases hx
  cases hcc
  obtain⟨E1,a1,a2⟩:=qbr _ t1 r1 d hc
  rcases PR.bind_bad h with h1|⟨l,tsl,h2,h3⟩
  ·obtain⟨E,e1⟩:=metP (listE_p hR hB hLen d hTr h1) (.inr rfl) (qaa _ _) (qap _ _)
   refine qao rfl Tryz.func286 rfl (by kernel_rfl) (m:=35) rfl (qaf _ _) ?_;simp only[Z3,simprocAttr,Tryz.f286,effs,pans,qku,n1,n2,qbb,bne,q1,q2,a1,a2,e1]
   exact qah
  obtain⟨hT2,g2⟩:=quu hR hLen d hTr h2
  obtain⟨E2,b1,b2⟩:=met4 g2 rfl (qaa _ _) (qaa _ _) rfl
  obtain⟨t2,r2,rfl,⟨hs2,rfl,rfl⟩|⟨_,_,h4⟩⟩:=qa8 hT2 h3
  ·obtain⟨E,e1⟩:=metP (qb8 [41] (by decide) t2 r2 d hs2) (.inl rfl) (qaa _ _) rfl
   refine qao rfl Tryz.func286 rfl (by kernel_rfl) (m:=35) rfl (qaf _ _) ?_;simp only[Z3,simprocAttr,Tryz.f286,effs,pans,qku,n1,n2,qbb,bne,q1,q2,a1,a2,b1,b2,e1]
   exact qah
  ·cases h4
 ·rw[hb]at h
  simp only[if_true]at h
  have q1:=qg2 hb
  rcases PR.bind_bad h with h1|⟨c,tsc,h1,h2⟩
  ·obtain⟨E,e1⟩:=metP (qll (by decide) (by decide) (d:=d) hT h1) (.inl rfl) (qaa _ _) (qap _ _)
   refine qao rfl Tryz.func286 rfl (by kernel_rfl) (m:=35) rfl (qaf _ _) ?_;simp only[Z3,simprocAttr,Tryz.f286,effs,pans,qku,n1,n2,qbb,bne,q1,e1]
   exact qah
  obtain⟨hTc,gn⟩:=qec (d:=d) hT h1
  obtain⟨E0,z1,z2⟩:=met gn rfl (qaa _ _) (qaa _ _) rfl
  obtain⟨t3,r3,rfl,⟨hs3,rfl,rfl⟩|⟨w1,hTr,h3⟩⟩:=qa8 hTc h2
  ·obtain⟨E,e1⟩:=metP (qb8 [40] (by decide) t3 r3 d hs3) (.inl rfl) (qaa _ _) rfl
   refine qao rfl Tryz.func286 rfl (by kernel_rfl) (m:=35) rfl (qaf _ _) ?_;simp only[Z3,simprocAttr,Tryz.f286,effs,pans,qku,n1,n2,qbb,bne,q1,z1,z2,e1]
   exact qah
  obtain⟨E1,a1,a2⟩:=qbr _ t3 r3 d w1
  rcases PR.bind_bad h3 with h4|⟨l,tsl,h4,h5⟩
  ·obtain⟨E,e1⟩:=metP (listE_p hR hB hLen d hTr h4) (.inr rfl) (qaa _ _) (qap _ _)
   refine qao rfl Tryz.func286 rfl (by kernel_rfl) (m:=35) rfl (qaf _ _) ?_;simp only[Z3,simprocAttr,Tryz.f286,effs,pans,qku,n1,n2,qbb,bne,q1,z1,z2,a1,a2,e1]
   exact qah
  obtain⟨hT2,g2⟩:=quu hR hLen d hTr h4
  obtain⟨E2,b1,b2⟩:=met4 g2 rfl (qaa _ _) (qaa _ _) rfl
  obtain⟨t2,r2,rfl,⟨hs2,rfl,rfl⟩|⟨_,_,h6⟩⟩:=qa8 hT2 h5
  ·obtain⟨E,e1⟩:=metP (qb8 [41] (by decide) t2 r2 d hs2) (.inl rfl) (qaa _ _) rfl
   refine qao rfl Tryz.func286 rfl (by kernel_rfl) (m:=35) rfl (qaf _ _) ?_;simp only[Z3,simprocAttr,Tryz.f286,effs,pans,qku,n1,n2,qbb,bne,q1,z1,z2,a1,a2,b1,b2,e1]
   exact qah
  ·cases h6
theorem metP1 {f:FuncId} {rest x:List AVal} {v:AVal} (g:Pans C f (.ptr 0 0::rest) [.box x] v) (hr:qad rest=[]) (px:qad x=[]) (hv:refs v=[]):∃E:Blk→qab→Eff,∀a H,qai C (a:: .box x::H) f (.ptr 1 0::rest)=some (.pan v (E a H)):=by
 have h:∀a H,∃e:Eff,qai C (a:: .box x::H) f (.ptr 1 0::rest)=some (.pan v e):=by
  intro a H
  have ha:qad (.ptr 1 0::rest)=[1]:=by simp[qad,refs,hr]
  have e1:subH (a:: .box x::H) [1]=[.box x]:=by simp[subH,renB,qbs px]
  have e2:renL (fun x=>[1].idxOf x) (.ptr 1 0::rest)= .ptr 0 0::rest:=by
   simp only[renL,ren,qbs hr];simp
  refine qm4 [1] ?_ ?_ (by rw[e1,e2];exact g) hv
  ·rw[ha];simp[qbv,px]
  ·unfold qc2;rw[ha];simp[qdq,px]
 exact⟨fun a H=>(h a H).choose,fun a H=>(h a H).choose_spec⟩
def pArm (R:Rd) (o:Nat) (ts:List PTok):PR (Str×PExpr):=qdf 2 ts fun c ts=>qbe [45,62] ts fun ts=>(R o 1 ts).bind fun e ts=> .ok (c,e) ts
theorem arm_p {R:Rd} (hR:HypE R) (hB:BadE R) {d:Nat} {ts ts':List PTok} {e:Int} (hT:TsOk ts) (h:pArm R d ts= .bad e ts'):
 Pans C 299 [.ptr 0 0] [.box [.ptr 1 0],.box (pbox ts d)] (qa9 e ts'):=by
 unfold pArm at h
 obtain⟨t,r,rfl,⟨hs,rfl,rfl⟩|⟨hs,h1⟩⟩:=qd3 hT h
 ·obtain⟨E,e1⟩:=metP1 (qrv t r d hs) rfl (qaa _ _) rfl
  refine qao rfl Tryz.func299 rfl (by kernel_rfl) (m:=11) rfl (qaf _ _) ?_;simp only[Z3,simprocAttr,Tryz.f299,effs,pans,qxl,e1]
  exact qah
 have hTr:=hT.tail (by rw[hs];decide)
 obtain⟨E1,a1,a2⟩:=met1 (qfp t r d hs) rfl (qaa _ _) (qaa _ _) rfl
 obtain⟨t1,r1,rfl,⟨hs1,rfl,rfl⟩|⟨w1,hT1,h2⟩⟩:=qa8 hTr h1
 ·obtain⟨E,e1⟩:=metP1 (qb8 [45,62] (by decide) t1 r1 d hs1) rfl (qaa _ _) rfl
  refine qao rfl Tryz.func299 rfl (by kernel_rfl) (m:=11) rfl (qaf _ _) ?_;simp only[Z3,simprocAttr,Tryz.f299,effs,pans,qxl,a1,a2,e1]
  exact qah
 obtain⟨E2,b1,b2⟩:=met1 (qhg _ t1 r1 d w1) rfl (qaa _ _) (qaa _ _) rfl
 rcases PR.bind_bad h2 with h3|⟨_,_,_,h3⟩
 ·obtain⟨E,e1⟩:=metP1 (qjl hB hT1 h3) rfl (qaa _ _) (qap _ _)
  refine qao rfl Tryz.func299 rfl (by kernel_rfl) (m:=11) rfl (qaf _ _) ?_;simp only[Z3,simprocAttr,Tryz.f299,effs,pans,qxl,a1,a2,b1,b2,e1]
  exact qah
 ·cases h3
end Go.Ab
namespace Go.Ab
open Go Go.Ab.Tab
theorem q2d (R:Rd) (o n:Nat) (ts:List PTok):qey R o (n+1) ts=(pArm R o ts).bind fun x ts=>if hasS [124] ts=true then(qey R o n ts.tail).bind fun l ts=> .ok (x::l) ts else .ok [x] ts:=by
 simp only[qey,pArm]
 cases ts with
 |nil=>rfl
 |cons t r=>
  simp only[qdf]
  split
  ·simp only[qbe]
   split
   ·cases R o 1 r.tail<;>rfl
   ·rfl
  ·rfl
theorem arm_d {R:Rd} (hR:HypE R) (hLen:LenR R) {d:Nat} {ts ts':List PTok} {x:Str×PExpr} (hT:TsOk ts) (h:pArm R d ts= .ok x ts'):
 TsOk ts'∧ts'.length<ts.length∧qbi C 299 [.ptr 0 0] [.box [.ptr 1 0],.box (pbox ts d)] (.agg (armC x.1 x.2)) [.box [.ptr 1 0],.box (pbox ts' d)]:=by
 unfold pArm at h
 obtain⟨t0,r0,rfl,hs0,h⟩:=qbz h
 have hT0:=hT.tail (by rw[hs0];decide)
 obtain⟨hw0,h⟩:=qa5 h
 obtain⟨t1,r1,rfl,hT1,_,_⟩:=hT0.hasS hw0
 obtain⟨e0,rt,h0,h⟩:=PR.bind_ok h
 cases h
 obtain⟨hTr,g⟩:=arm_c hR hs0 hw0 hT1 h0
 have hl:=hLen _ _ _ _ _ h0
 rw[wf]at hl
 exact⟨hTr,by simp only[wa];omega,g⟩
theorem qxy {h:qab} {f:FuncId} {v:AVal} {x:List AVal} (h0:h[0]? =some (.box x)) (h1:h[1]? =some (.box [.ptr 0 0])) (px:qad x=[]) (g:Pans C f [.ptr 0 0] [.box [.ptr 1 0],.box x] v) (hv:refs v=[]):∃E:Eff,qai C h f [.ptr 1 0]=some (.pan v E):=by
 have e1:subH h [1,0]=[.box [.ptr 1 0],.box x]:=by
  simp[subH,wq,h0,h1,renB,qbs px,renL,ren];rfl
 have e2:renL (fun x=>[1,0].idxOf x) [.ptr 1 0]=[.ptr 0 0]:=by simp[renL,ren]
 exact qm4 [1,0] (by simp[qbv,qad,refs,h0,h1,px]) (by unfold qc2;simp[qad,refs,h0,h1,qdq,px]) (by rw[e1,e2];exact g) hv
theorem q3r {h:qab} {f g0:FuncId} {s:Str} {v:AVal} {x:List AVal} (h0:h[0]? =some (.box x)) (h1:h[1]? =some (.box [.ptr 0 0])) (px:qad x=[])
 (g:Pans C f [.ptr 0 0,.str s,.func g0 [] [.ptr 1 0]] [.box x,.box [.ptr 0 0]] v) (hv:refs v=[]):∃E:Eff,qai C h f [.ptr 0 0,.str s,.func g0 [] [.ptr 1 0]]=some (.pan v E):=by
 have ha:qad [.ptr 0 0,.str s,.func g0 [] [.ptr 1 0]]=[0,1]:=rfl
 have e1:subH h [0,1]=[.box x,.box [.ptr 0 0]]:=by
  simp[subH,wq,h0,h1,renB,qbs px,renL,ren]
 have e2:renL (fun x=>[0,1].idxOf x) [.ptr 0 0,.str s,.func g0 [] [.ptr 1 0]]=[.ptr 0 0,.str s,.func g0 [] [.ptr 1 0]]:=rfl
 exact qm4 [0,1] (by rw[ha];simp[qbv,qad,refs,h0,h1,px]) (by unfold qc2;rw[ha];simp[qad,refs,h0,h1,qdq,px]) (by rw[e1,e2];exact g) hv
theorem listA_p {R:Rd} (hR:HypE R) (hB:BadE R) (hLen:LenR R) (d:Nat) {n:Nat} {ts ts':List PTok} {e:Int} (hT:TsOk ts) (h:qey R d n ts= .bad e ts'):
 Pans C 298 [.ptr 0 0,.str [124],.func 299 [] [.ptr 1 0]] [.box (pbox ts d),.box [.ptr 0 0]] (qa9 e ts'):=by
 cases n with
 |zero=>cases h
 |succ n=>
  rw[q2d]at h
  rcases PR.bind_bad h with h0|⟨x0,rt,h0,h1⟩
  ·obtain⟨E,e1⟩:=qxy (h:=[.box (pbox ts d),.box [.ptr 0 0]]) rfl rfl (qaa _ _) (arm_p hR hB hT h0) (qap _ _)
   refine qao rfl Tryz.func298 rfl (by kernel_rfl) (m:=17) rfl (qaf _ _) ?_;simp only[Z3,simprocAttr,Tryz.f298,effs,pans,qkw,e1]
   exact qah
  obtain⟨hTr,_,x0'⟩:=arm_d hR hLen hT h0
  obtain⟨E,e1,e2⟩:=qo0 (h:=[.box (pbox ts d),.box [.ptr 0 0]]) rfl rfl (qaa _ _) (qaa _ _) x0' (by simp only[refs];exact qmk _ _)
  have e2:E.of [.box (pbox ts d),.box [.ptr 0 0]]=[.box (pbox rt d),.box [.ptr 0 0]]:=e2
  rw[armX]at e1
  have hle:=hTr.le
  refine qao rfl Tryz.func298 rfl (by kernel_rfl) (m:=17) rfl (qaf _ _) ?_;simp only[Z3,simprocAttr,Tryz.f298,effs,pans,qkw,e1,e2]
  generalize hb:qam PP cmp0 C lpC _=f;generalize hl:lpC f _=r
  obtain⟨ex,s',rfl,rfl⟩:=qch (α:=ListAt) hl [11,12,13,14,15,16,17,18] (fun a=>[(7,a.v)]) (fun a h=>h[0]? =some (.box (pbox a.ts d))∧h[1]? =some (.box [.ptr 0 0])∧Grow2 h a.v (a.acc.map fun x=>armC x.1 x.2) 290∧TsOk a.ts∧a.acc.length+a.ts.length≤65538∧(if hasS [124] a.ts=true then(qey R d a.n a.ts.tail).bind fun l2 ts2=> .ok (a.acc++l2) ts2 else .ok a.acc a.ts)= .bad e ts') (fun a=>a.n) (fun _=>())
   (fun ts _ ex s=>ex= .pan (qa9 e ts')) ⟨n,[x0],.slice [armC x0.1 x0.2] .full,rt⟩ ⟨rfl,rfl,.inl rfl,hTr,by simp only[wa,wc];omega,by
    simp only
    split at h1
    ·rename_i hh
     rw[if_pos hh]
     rcases PR.bind_bad h1 with h3|⟨_,_,_,h3⟩
     ·rw[h3];rfl
     ·cases h3
    ·cases h1⟩ (by simp only[AtT,ats,armX]) (by
    rintro⟨n,acc,v,ts⟩ j G dd ⟨q0,q1,hgr,hTs,hln,hp⟩
    clear hl;subst hb
    simp only at q0 q1 hgr hTs hln hp ⊢
    obtain⟨t,rt,rfl⟩:=hTs.ne
    cases hh:hasS [124] (t::rt)
    ·rw[hh]at hp
     cases hp
    ·rw[hh]at hp
     simp only[if_true,wf]at hp
     cases n with
     |zero=>cases hp
     |succ n=>
      obtain⟨_,_,hc,hTr,_,_⟩:=hTs.hasS hh
      cases hc
      obtain⟨E1,G1,c1,s1⟩:=stp q0 (qem [124] t rt d hh) rfl (qaa _ _) (qaa _ _) rfl
      have o1:=s1.of
      have p1:=s1.box 1 _ (by decide) q1
      rcases PR.bind_bad hp with h2|⟨l2,ts2,_,h2⟩
      ·rw[q2d]at h2
       rcases PR.bind_bad h2 with h20|⟨x2,r2,h20,h21⟩
       ·obtain⟨E2,c2⟩:=qxy s1.p0 p1 (qaa _ _) (arm_p hR hB hTr h20) (qap _ _)
        simp only[Z3,simprocAttr,effs,pans,qkw,c1,o1,c2]
        exact .inr ⟨_,_,rfl,by simp,rfl⟩
       ·obtain⟨hT2,hlt,y2⟩:=arm_d hR hLen hTr h20
        obtain⟨E2,c2,o2⟩:=qo0 s1.p0 p1 (qaa _ _) (qaa _ _) y2 (by simp only[refs];exact qmk _ _)
        rw[armX]at c2
        obtain⟨G2,hG2⟩:∃G2,G2=G1.set 0 (.box (pbox r2 d)):=⟨_,rfl⟩
        rw[←hG2]at o2
        have l0:=(wt.1 s1.p0).1
        have w0:G2[0]? =some (.box (pbox r2 d)):=by rw[hG2,ww l0]
        have w1:G2[1]? =some (.box [.ptr 0 0]):=by rw[hG2,w6 (by decide)];exact p1
        have gg:=(s1.grow _ _ _ hgr).set (y:=pbox r2 d) s1.p0
        rw[←hG2]at gg
        have hlen:acc.length+1≤qac:=by
         simp only[wa]at hln
         unfold qac;omega
        obtain⟨v3,E3,ha3,gg3,hB3⟩:=qkc qjh (fs:=[armC x2.1 x2.2]) gg (by simpa using hlen) (arms6 acc) (by intro c hc;simp only[wk,wi,or_false]at hc;subst hc;exact qv6 _ _) (by simp)
        rw[armX]at ha3
        simp only[Z3,simprocAttr,effs,pans,qkw,c1,o1,c2,o2,ha3]
        refine .inl ⟨⟨n,acc++[x2],v3,r2⟩,_,rfl,⟨hB3 _ _ w0,hB3 _ _ w1,by simpa using gg3,hT2,?_,?_⟩,by simp only[AtT,ats],by simp only[];omega,trivial⟩
        ·simp only[wg,wa,wc]at hln ⊢;omega
        ·split at h21
         ·rename_i hh3
          rw[if_pos hh3]
          rcases PR.bind_bad h21 with h3|⟨_,_,_,h3⟩
          ·rw[h3];rfl
          ·cases h3
         ·cases h21
      ·cases h2)
  clear hl
  simp only[Z3,simprocAttr,effs,pans,qkw]
  exact qah
end Go.Ab
namespace Go.Ab
open Go Go.Ab.Tab
theorem retp (v:AVal) (e:Eff):retO (some (.pan v e))=some (.pan v e):=rfl
def BadA (m:Nat) (R:Rd) (d:Nat):Prop:=∀(op:Int) (ts:List PTok) (e:Int) (ts':List PTok),TsOk ts→qja m R d op ts= .bad e ts'→Pans C 287 [.ptr 0 0,.int .i64 op] [.box (pbox ts d)] (qa9 e ts')
theorem atom_p {m:Nat} {R:Rd} (hR:HypE R) (hB:BadE R) (hLen:LenR R) {d:Nat} (hA:BadA m R d) {ts ts':List PTok} {e:Int} (hT:TsOk ts) (h:qhu m R d ts= .bad e ts'):
 Pans C 271 [.ptr 0 0] [.box (pbox ts d)] (qa9 e ts'):=by
 obtain⟨t,r,rfl⟩:=hT.ne
 unfold qhu at h
 by_cases s3:qc3 (t::r)=3
 ·rw[if_pos s3]at h;cases h
 rw[if_neg s3]at h
 have k3:(t.sort==3)=false:=by have:¬t.sort=3:=s3;simpa using this
 by_cases s2:qc3 (t::r)=2
 ·rw[if_pos s2]at h;cases h
 rw[if_neg s2]at h
 have k2:(t.sort==2)=false:=by have:¬t.sort=2:=s2;simpa using this
 by_cases s1:qc3 (t::r)=1
 ·rw[if_pos s1]at h
  have hTr:=hT.tail (by rw[show t.sort=1 from s1];decide)
  have k1:(t.sort==1)=true:=by have:t.sort=1:=s1;simpa using this
  simp only at h
  cases hc:(hasS [91] r||hasS [40] r)
  ·rw[hc]at h;cases h
  ·rw[hc]at h
   obtain⟨E,e1⟩:=metP (named_p hR hB hLen hTr s1 hc h) (.inl rfl) (qaa _ _) (qap _ _)
   refine qao rfl Tryz.func271 rfl (by kernel_rfl) (m:=53) rfl (qaf _ _) ?_;simp only[Z3,simprocAttr,Tryz.f271,effs,pans,qgz,qe0,k3,k2,k1,e1]
   exact qah
 rw[if_neg s1]at h
 have k1:(t.sort==1)=false:=by have:¬t.sort=1:=s1;simpa using this
 by_cases h1:hasS [116,114,117,101] (t::r)=true
 ·rw[if_pos h1]at h;cases h
 rw[if_neg h1]at h
 have b1:=qev [116,114,117,101] (by decide) t r d (wb.2 h1)
 by_cases h2:hasS [102,97,108,115,101] (t::r)=true
 ·rw[if_pos h2]at h;cases h
 rw[if_neg h2]at h
 have b2:=qev [102,97,108,115,101] (by decide) t r d (wb.2 h2)
 by_cases h3:hasS [109,101,114,103,101] (t::r)=true
 ·rw[if_pos h3]at h
  obtain⟨_,_,hc,hTr,_,_⟩:=hT.hasS h3
  cases hc
  obtain⟨E1,a1,a2⟩:=qda _ t r d h3
  obtain⟨E,e1⟩:=metP (hA 12 _ _ _ hTr h) (.inl rfl) (qaa _ _) (qap _ _)
  refine qao rfl Tryz.func271 rfl (by kernel_rfl) (m:=53) rfl (qaf _ _) ?_;simp only[Z3,simprocAttr,Tryz.f271,effs,pans,qgz,qe0,k3,k2,k1,b1,b2,a1,a2,e1]
  exact qah
 rw[if_neg h3]at h
 have b3:=qev [109,101,114,103,101] (by decide) t r d (wb.2 h3)
 by_cases h4:hasS [109,97,116,99,104] (t::r)=true
 ·rw[if_pos h4]at h
  obtain⟨_,_,hc,hTr,_,_⟩:=hT.hasS h4
  cases hc
  obtain⟨E1,a1,a2⟩:=qda _ t r d h4
  obtain⟨E,e1⟩:=metP (hA 13 _ _ _ hTr h) (.inl rfl) (qaa _ _) (qap _ _)
  refine qao rfl Tryz.func271 rfl (by kernel_rfl) (m:=53) rfl (qaf _ _) ?_;simp only[Z3,simprocAttr,Tryz.f271,effs,pans,qgz,qe0,k3,k2,k1,b1,b2,b3,a1,a2,e1]
  exact qah
 rw[if_neg h4]at h
 have b4:=qev [109,97,116,99,104] (by decide) t r d (wb.2 h4)
 obtain⟨_,_,hc,⟨hs,rfl,rfl⟩|⟨w1,hTr,h5⟩⟩:=qa8 hT h
 ·cases hc
  obtain⟨E,e1⟩:=metP (qb8 [40] (by decide) t r d hs) (.inl rfl) (qaa _ _) rfl
  refine qao rfl Tryz.func271 rfl (by kernel_rfl) (m:=53) rfl (qaf _ _) ?_;simp only[Z3,simprocAttr,Tryz.f271,effs,pans,qgz,qe0,k3,k2,k1,b1,b2,b3,b4,e1]
  exact qah
 cases hc
 obtain⟨E1,a1,a2⟩:=qbr _ t r d w1
 rcases PR.bind_bad h5 with h6|⟨x,tx,h6,h7⟩
 ·obtain⟨E,e1⟩:=metP (qjl hB hTr h6) (.inl rfl) (qaa _ _) (qap _ _)
  refine qao rfl Tryz.func271 rfl (by kernel_rfl) (m:=53) rfl (qaf _ _) ?_;simp only[Z3,simprocAttr,Tryz.f271,effs,pans,qgz,qe0,k3,k2,k1,b1,b2,b3,b4,a1,a2,e1]
  exact qah
 obtain⟨hTx,gx⟩:=qds hR hTr h6
 obtain⟨E2,c1,c2⟩:=gx.m rfl
 obtain⟨t2,r2,rfl,⟨hs2,rfl,rfl⟩|⟨_,_,h8⟩⟩:=qa8 hTx h7
 ·obtain⟨E,e1⟩:=metP (qb8 [41] (by decide) t2 r2 d hs2) (.inl rfl) (qaa _ _) rfl
  refine qao rfl Tryz.func271 rfl (by kernel_rfl) (m:=53) rfl (qaf _ _) ?_;simp only[Z3,simprocAttr,Tryz.f271,effs,pans,qgz,qe0,k3,k2,k1,b1,b2,b3,b4,a1,a2,c1,c2,e1]
  exact qah
 ·cases h8
theorem prefix_p {m:Nat} {R:Rd} (hR:HypE R) (hB:BadE R) {d:Nat} {ts ts':List PTok} {e:Int} (hT:TsOk ts) (hS:qd2 m R d ts= .bad e ts'→Pans C 247 [.ptr 0 0] [.box (pbox ts d)] (qa9 e ts')) (h:qef m R d ts= .bad e ts'):
 Pans C 213 [.ptr 0 0] [.box (pbox ts d)] (qa9 e ts'):=by
 obtain⟨t,r,rfl⟩:=hT.ne
 unfold qef at h
 have un:∀{s:Str} (_:hasS s (t::r)=true) {f:PExpr→List PTok→PR PExpr},(∀k t1,f k t1≠ .bad e ts')→(R d 0 r).bind f= .bad e ts'→TsOk r∧Pans C 151 [.ptr 0 0] [.box (pbox r d)] (qa9 e ts'):=by
  intro s hs f hf hb
  obtain⟨_,_,hc,hTr,_,_⟩:=hT.hasS hs
  cases hc
  rcases PR.bind_bad hb with h1|⟨_,_,_,h1⟩
  ·exact⟨hTr,(hB _ _ _ _ _ hTr h1).1 rfl⟩
  ·exact(hf _ _ h1).elim
 obtain⟨E0,a1,a2⟩:=qk4 t r d
 by_cases h1:hasS [110,111,116] (t::r)=true
 ·rw[if_pos h1]at h
  obtain⟨hTr,g⟩:=un h1 (by simp) h
  obtain⟨E,e1⟩:=metP g (.inl rfl) (qaa _ _) (qap _ _)
  have q1:=qg2 h1
  refine qao rfl Tryz.func213 rfl (by kernel_rfl) (m:=48) rfl (qaf _ _) ?_;simp only[Z3,simprocAttr,Tryz.f213,effs,pans,qga,qbb,q1,a1,a2,e1]
  exact qah
 rw[if_neg h1]at h
 have q1:=qg3 (s:=[110,111,116]) (by decide) (wb.2 h1)
 by_cases h2:hasS [45] (t::r)=true
 ·rw[if_pos h2]at h
  obtain⟨hTr,g⟩:=un h2 (by simp) h
  obtain⟨E,e1⟩:=metP g (.inl rfl) (qaa _ _) (qap _ _)
  have q2:=qg2 h2
  refine qao rfl Tryz.func213 rfl (by kernel_rfl) (m:=48) rfl (qaf _ _) ?_;simp only[Z3,simprocAttr,Tryz.f213,effs,pans,qga,qbb,q1,q2,a1,a2,e1]
  exact qah
 rw[if_neg h2]at h
 have q2:=qg3 (s:=[45]) (by decide) (wb.2 h2)
 by_cases h3:hasS [112,114,101] (t::r)=true
 ·rw[if_pos h3]at h
  obtain⟨hTr,g⟩:=un h3 (by simp) h
  obtain⟨E,e1⟩:=metP g (.inl rfl) (qaa _ _) (qap _ _)
  have q3:=qg2 h3
  refine qao rfl Tryz.func213 rfl (by kernel_rfl) (m:=48) rfl (qaf _ _) ?_;simp only[Z3,simprocAttr,Tryz.f213,effs,pans,qga,qbb,q1,q2,q3,a1,a2,e1]
  (try rw[qiq (by kernel_rfl)])
  exact qah
 rw[if_neg h3]at h
 have q3:=qg3 (s:=[112,114,101]) (by decide) (wb.2 h3)
 by_cases h4:hasS [105,102] (t::r)=true
 ·rw[if_pos h4]at h
  obtain⟨_,_,hc,hTr,_,_⟩:=hT.hasS h4
  cases hc
  have q4:=qg2 h4
  rcases PR.bind_bad h with g1|⟨xa,t1,g1,h5⟩
  ·obtain⟨E,e1⟩:=metP (qjl hB hTr g1) (.inl rfl) (qaa _ _) (qap _ _)
   refine qao rfl Tryz.func213 rfl (by kernel_rfl) (m:=48) rfl (qaf _ _) ?_;simp only[Z3,simprocAttr,Tryz.f213,effs,pans,qga,qbb,q1,q2,q3,q4,a1,a2,e1]
   exact qah
  obtain⟨hT1,ra⟩:=qds hR hTr g1
  obtain⟨Ea,b1,b2⟩:=ra.m rfl
  obtain⟨t2,r2,rfl,⟨hs2,rfl,rfl⟩|⟨w1,hT2,h6⟩⟩:=qa8 hT1 h5
  ·obtain⟨E,e1⟩:=metP (qb8 [116,104,101,110] (by decide) t2 r2 d hs2) (.inl rfl) (qaa _ _) rfl
   refine qao rfl Tryz.func213 rfl (by kernel_rfl) (m:=48) rfl (qaf _ _) ?_;simp only[Z3,simprocAttr,Tryz.f213,effs,pans,qga,qbb,q1,q2,q3,q4,a1,a2,b1,b2,e1]
   exact qah
  obtain⟨Ew,c1,c2⟩:=qbr _ t2 r2 d w1
  rcases PR.bind_bad h6 with g2|⟨xb,t3,g2,h7⟩
  ·obtain⟨E,e1⟩:=metP (qjl hB hT2 g2) (.inl rfl) (qaa _ _) (qap _ _)
   refine qao rfl Tryz.func213 rfl (by kernel_rfl) (m:=48) rfl (qaf _ _) ?_;simp only[Z3,simprocAttr,Tryz.f213,effs,pans,qga,qbb,q1,q2,q3,q4,a1,a2,b1,b2,c1,c2,e1]
   exact qah
  obtain⟨hT3,rb⟩:=qds hR hT2 g2
  obtain⟨Eb,d1,d2⟩:=rb.m rfl
  obtain⟨t4,r4,rfl,⟨hs4,rfl,rfl⟩|⟨w2,hT4,h8⟩⟩:=qa8 hT3 h7
  ·obtain⟨E,e1⟩:=metP (qb8 [101,108,115,101] (by decide) t4 r4 d hs4) (.inl rfl) (qaa _ _) rfl
   refine qao rfl Tryz.func213 rfl (by kernel_rfl) (m:=48) rfl (qaf _ _) ?_;simp only[Z3,simprocAttr,Tryz.f213,effs,pans,qga,qbb,q1,q2,q3,q4,a1,a2,b1,b2,c1,c2,d1,d2,e1]
   exact qah
  obtain⟨Ex,f1,f2⟩:=qbr _ t4 r4 d w2
  rcases PR.bind_bad h8 with g3|⟨_,_,_,h9⟩
  ·obtain⟨E,e1⟩:=metP (qjl hB hT4 g3) (.inl rfl) (qaa _ _) (qap _ _)
   refine qao rfl Tryz.func213 rfl (by kernel_rfl) (m:=48) rfl (qaf _ _) ?_;simp only[Z3,simprocAttr,Tryz.f213,effs,pans,qga,qbb,q1,q2,q3,q4,a1,a2,b1,b2,c1,c2,d1,d2,f1,f2,e1,retp]
   rw[qiq (by kernel_rfl)]
   exact qah
  ·cases h9
 rw[if_neg h4]at h
 have q4:=qg3 (s:=[105,102]) (by decide) (wb.2 h4)
 obtain⟨E,e1⟩:=metP (hS h) (.inl rfl) (qaa _ _) (qap _ _)
 refine qao rfl Tryz.func213 rfl (by kernel_rfl) (m:=48) rfl (qaf _ _) ?_;simp only[Z3,simprocAttr,Tryz.f213,effs,pans,qga,qbb,q1,q2,q3,q4,e1]
 exact qah
theorem unary_p {o:Nat} {ts ts':List PTok} {e:Int} (ho:o<100) (hp:Pans C 213 [.ptr 0 0] [.box (pbox ts (o+1))] (qa9 e ts')):Pans C 151 [.ptr 0 0] [.box (pbox ts o)] (qa9 e ts'):=by
 obtain⟨E,u1⟩:=metP hp (.inl rfl) (qaa _ _) (qap _ _)
 have v1:∀H,qai C (.box [.slice (ts.map PTok.cells) .free,.int .i64 ((o:Int)+1)]::H) 213 [.ptr 0 0]=some (.pan (qa9 e ts') (E H)):=u1
 have w1:qc1 .i64 ((o:Int)+1)=(o:Int)+1:=qhn (by omega) (by omega)
 have d1:decide ((100:Int)<(o:Int)+1)=false:=decide_eq_false (by omega)
 refine qao rfl Tryz.func151 rfl (by kernel_rfl) (m:=27) rfl (qaf _ _) ?_;simp only[Z3,simprocAttr,Tryz.f151,effs,pans,fx_151,pbox,w1,d1,v1]
 exact qah
theorem q5j {o:Nat} {ts:List PTok} (hT:TsOk ts) (ho:100≤o) (ho2:o<1000000):Pans C 151 [.ptr 0 0] [.box (pbox ts o)] (qa9 9 ts):=by
 obtain⟨t,r,rfl⟩:=hT.ne
 obtain⟨E,u1⟩:=metP (qti 9 t r (o+1)) (.inl rfl) (qaa _ _) rfl
 have v1:∀H,qai C (.box [.slice (t.cells::r.map PTok.cells) .free,.int .i64 ((o:Int)+1)]::H) 52 [.ptr 0 0,.int .i64 9]=some (.pan (qk7 9 t) (E H)):=u1
 have w1:qc1 .i64 ((o:Int)+1)=(o:Int)+1:=qhn (by omega) (by omega)
 have d1:decide ((100:Int)<(o:Int)+1)=true:=decide_eq_true (by omega)
 refine qao rfl Tryz.func151 rfl (by kernel_rfl) (m:=27) rfl (qaf _ _) ?_;simp only[Z3,simprocAttr,Tryz.f151,effs,pans,fx_151,pbox,w1,d1,v1]
 exact qah
end Go.Ab
namespace Go.Ab
open Go Go.Ab.Tab
theorem infix_p {N:Nat} {R:Rd} (hR:HypE R) (hB:BadE R) {o least:Nat} {ts ts1 ts':List PTok} {left:PExpr} {e:Int} (hpos:0<least) (hT:TsOk ts) (hu:R o 0 ts= .ok left ts1) (hloop:qez R o least N 7 left ts1= .bad e ts'):
 Pans C 99 [.ptr 0 0,.int .i64 least] [.box (pbox ts o)] (qa9 e ts'):=by
 obtain⟨hT1,ru,_⟩:=hR _ _ _ _ _ hT hu
 obtain⟨E,u1,u2⟩:=(ru rfl).m rfl
 refine qao rfl Tryz.func99 rfl (by kernel_rfl) (m:=52) rfl (qaf _ _) ?_;simp only[Z3,simprocAttr,Tryz.f99,effs,pans,qex,u1,u2]
 generalize hb:qam PP cmp0 C lpC _=f;generalize hl:lpC f _=r
 obtain⟨ex,s',rfl,rfl⟩:=qes (α:=InSt) hl [7,8,11,12,13,14,15,16,17,18,19,20,21,22,23,24,25,26,27,28,29,30,31,32,33,34,35,36,37,38,39,40,41,42,43,44,45,46,47,48,49,50,51,52,53] (fun a=>[(6,.int .i64 a.most)]) (fun a=>[.box (pbox a.ts o),.box qax,.box (a.left.cellsT a.tk)]) (fun a=>TsOk a.ts∧qez R o least a.n a.most a.left a.ts= .bad e ts') (fun a=>a.n) (fun _=>())
  (fun ts _ ex s=>ex= .pan (qa9 e ts')) ⟨N,7,left,.free,ts1⟩ ⟨hT1,hloop⟩ (by rw[qu9];exact At.of [] (by simp only[ats];rfl) (by simp only[List.append_nil];rfl)) (by
   rintro⟨n,most,left,tk,ts⟩ j H d ⟨hTs,hp⟩
   clear hl;subst hb
   simp only at hTs hp ⊢
   cases n with
   |zero=>cases hp
   |succ n=>
    obtain⟨t,r,rfl⟩:=hTs.ne
    simp only[qez]at hp
    have hbl:=bind_le (qau (t::r))
    have cb:=bind_c (qau (t::r))
    by_cases hb1:qbc (qau (t::r))<least∨most<qbc (qau (t::r))
    ·rw[if_pos hb1]at hp
     cases hp
    ·rw[if_neg hb1]at hp
     have hne:qbc (qau (t::r))≠0:=by omega
     have hTr:=hTs.tail (qtf hne)
     have d1:decide (((qbc (qau (t::r)):Nat):Int)<(least:Int))=false:=decide_eq_false (by omega)
     have d2:decide ((most:Int)<((qbc (qau (t::r)):Nat):Int))=false:=decide_eq_false (by omega)
     obtain⟨Es,s1,s2⟩:=qk4 t r o
     by_cases q1:qbc (qau (t::r))=1
     ·rw[if_pos q1]at hp
      rcases PR.bind_bad hp with hk|⟨_,_,_,hk⟩
      ·have g:Pans C 99 [.ptr 0 0,.int .i64 1] [.box (pbox r o)] (qa9 e ts'):=(hB _ _ _ _ _ hTr hk).2 (by omega)
       obtain⟨Ek,y1⟩:=metP g (.inl rfl) (qaa _ _) (qap _ _)
       have e1:(((qbc (qau (t::r)):Nat):Int)==1)=true:=by rw[q1];rfl
       simp only[Z3,simprocAttr,effs,pans,qex,PExpr.cellsT,qax,qbb,cb _,d1,d2,s1,s2,e1,y1,retp]
       rw[qiq (by kernel_rfl)]
       exact .inr ⟨_,_,rfl,by simp,rfl⟩
      ·cases hk
     ·rw[if_neg q1]at hp
      have e1:(((qbc (qau (t::r)):Nat):Int)==1)=false:=by simp;omega
      by_cases q2:qbc (qau (t::r))=2
      ·rw[if_pos q2]at hp
       have e2:(((qbc (qau (t::r)):Nat):Int)==2)=true:=by rw[q2];rfl
       rcases PR.bind_bad hp with hk|⟨k,ts2,hk,hp⟩
       ·have g:Pans C 99 [.ptr 0 0,.int .i64 2] [.box (pbox r o)] (qa9 e ts'):=(hB _ _ _ _ _ hTr hk).2 (by omega)
        obtain⟨Ek,y1⟩:=metP g (.inl rfl) (qaa _ _) (qap _ _)
        simp only[Z3,simprocAttr,effs,pans,qex,PExpr.cellsT,qax,qbb,cb _,d1,d2,s1,s2,e1,e2,y1,retp]
        rw[qiq (by kernel_rfl)]
        exact .inr ⟨_,_,rfl,by simp,rfl⟩
       obtain⟨hT2,_,rk⟩:=hR _ _ _ _ _ hTr hk
       have rk':RdE 99 [.int .i64 2] r o k ts2:=rk (by omega)
       obtain⟨Ek,y1,y2,y3⟩:=rk'.m3 rfl
       simp only[Z3,simprocAttr,effs,pans,qex,PExpr.cellsT,qax,qbb,cb _,d1,d2,s1,s2,e1,e2,y1,y2,qgd,qen,qmc _ _ _ _]
       rw[qcr]
       ·simp only[Z3,simprocAttr,effs,qex,y2,qmc _ _ _ _]
        exact .inl ⟨⟨n,1,eFby left k,.free,ts2⟩,_,rfl,⟨hT2,hp⟩,At.of _ (by simp only[ats]<;>rfl) (by simp only[wu,wh,wv]<;>rfl),by simp only[];omega,trivial⟩
       ·kernel_rfl
       ·have z2:=y3 (Blk.box qax::Blk.box (left.cellsT tk)::H) 2 (by omega) (by simp)
        unfold qax PExpr.cellsT at z2
        simp only[qaj,qbx,qae,qcp,z2,wj,wo,wm,wd,we]
      ·rw[if_neg q2]at hp
       have e2:(((qbc (qau (t::r)):Nat):Int)==2)=false:=by simp;omega
       have w1:qc1 .i64 (((qbc (qau (t::r)):Nat):Int)+1)=((qbc (qau (t::r)):Nat):Int)+1:=qhn (by omega) (by omega)
       rcases PR.bind_bad hp with hk|⟨k,ts2,hk,hp⟩
       ·have g:Pans C 99 [.ptr 0 0,.int .i64 (((qbc (qau (t::r)):Nat):Int)+1)] [.box (pbox r o)] (qa9 e ts'):=(hB _ _ _ _ _ hTr hk).2 (by omega)
        obtain⟨Ek,y1⟩:=metP g (.inl rfl) (qaa _ _) (qap _ _)
        simp only[Z3,simprocAttr,effs,pans,qex,PExpr.cellsT,qax,qbb,cb _,d1,d2,s1,s2,e1,e2,w1,y1,retp]
        rw[qiq (by kernel_rfl)]
        exact .inr ⟨_,_,rfl,by simp,rfl⟩
       obtain⟨hT2,_,rk⟩:=hR _ _ _ _ _ hTr hk
       have rk':RdE 99 [.int .i64 (((qbc (qau (t::r)):Nat):Int)+1)] r o k ts2:=rk (by omega)
       obtain⟨Ek,y1,y2,y3⟩:=rk'.m3 rfl
       by_cases q5:qbc (qau (t::r))=5
       ·rw[if_pos q5]at hp
        have e5:(((qbc (qau (t::r)):Nat):Int)==5)=true:=by rw[q5];rfl
        have w5:qc1 .i64 (((qbc (qau (t::r)):Nat):Int)-1)=4:=by rw[q5];rfl
        simp only[Z3,simprocAttr,effs,qex,PExpr.cellsT,qax,qbb,cb _,d1,d2,s1,s2,e1,e2,w1,y1,y2,qgd,qen]
        rw[qcr]
        ·simp only[Z3,simprocAttr,effs,qex,y2,qgd,qen,e5,w5]
         exact .inl ⟨⟨n,4,eBin (qau (t::r)) left k,.full,ts2⟩,_,rfl,⟨hT2,hp⟩,At.of _ (by simp only[ats]<;>rfl) (by simp only[wu,wh,wv]<;>rfl),by simp only[];omega,trivial⟩
        ·kernel_rfl
        ·have z2:=y3 (Blk.box qax::Blk.box (left.cellsT tk)::H) 2 (by omega) (by simp)
         unfold qax PExpr.cellsT at z2
         simp only[qaj,qbx,qae,qcp,z2,wj,wo,wm,wd,we]
       ·rw[if_neg q5]at hp
        have e5:(((qbc (qau (t::r)):Nat):Int)==5)=false:=by simp;omega
        simp only[Z3,simprocAttr,effs,qex,PExpr.cellsT,qax,qbb,cb _,d1,d2,s1,s2,e1,e2,w1,y1,y2,qgd,qen]
        rw[qcr]
        ·simp only[Z3,simprocAttr,effs,qex,y2,qgd,qen,e5]
         exact .inl ⟨⟨n,qbc (qau (t::r)),eBin (qau (t::r)) left k,.full,ts2⟩,_,rfl,⟨hT2,hp⟩,At.of _ (by simp only[ats]<;>rfl) (by simp only[wu,wh,wv]<;>rfl),by simp only[];omega,trivial⟩
        ·kernel_rfl
        ·have z2:=y3 (Blk.box qax::Blk.box (left.cellsT tk)::H) 2 (by omega) (by simp)
         unfold qax PExpr.cellsT at z2
         simp only[qaj,qbx,qae,qcp,z2,wj,wo,wm,wd,we])
 clear hl
 simp only[Z3,simprocAttr,effs,pans,qex]
 exact qah
theorem infix_u {R:Rd} (hB:BadE R) {o least:Nat} {ts ts':List PTok} {e:Int} (hT:TsOk ts) (hu:R o 0 ts= .bad e ts'):Pans C 99 [.ptr 0 0,.int .i64 least] [.box (pbox ts o)] (qa9 e ts'):=by
 obtain⟨E,u1⟩:=metP ((hB _ _ _ _ _ hT hu).1 rfl) (.inl rfl) (qaa _ _) (qap _ _)
 refine qao rfl Tryz.func99 rfl (by kernel_rfl) (m:=52) rfl (qaf _ _) ?_;simp only[Z3,simprocAttr,Tryz.f99,effs,pans,qex,u1]
 exact qah
end Go.Ab
