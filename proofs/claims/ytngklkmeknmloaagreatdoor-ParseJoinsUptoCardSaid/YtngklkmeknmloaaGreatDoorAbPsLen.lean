/- The parser: nodes. -/
import Derived.Test.YtngklkmeknmloaaGreatDoorAbPsO
set_option linter.unusedSimpArgs false
set_option linter.unusedVariables false
set_option maxRecDepth 100000
set_option maxHeartbeats 4000000
open Go.Proofs
open List renaming length_tail→wa,length_cons→wb,length_nil→wc,getElem?_eq_some_iff→wd,tail_cons→we,getElem?_set_self→wf,getElem?_set_ne→wg,map_append→wh,length_append→wi,singleton_append→wj,not_mem_nil→wk,length_map→wm,getElem?_cons_succ→wo,getElem?_cons_zero→wq,append_assoc→wu,mem_cons→ww,mem_map→wz,take_of_length_le→w7,append_nil→wba,drop_zero→wca
open Bool renaming eq_false_iff→wt,false_eq_true→w6,not_false→w8,and_true→w9,or_true→waa
open Nat renaming le_refl→wv
namespace Go.Ab
theorem qc5 {β:Type} {s:Str} {ts ts':List PTok} {k:List PTok→PR β} {b:β} (h:qbe s ts k= .ok b ts'):∃r,k r= .ok b ts'∧r.length≤ts.length:=by
 obtain⟨_,h⟩:=qa5 h
 exact⟨_,h,by rw[wa];omega⟩
theorem qlj {β:Type} {n:Int} {ts ts':List PTok} {k:Str→List PTok→PR β} {b:β} (h:qdf n ts k= .ok b ts'):∃x r,k x r= .ok b ts'∧r.length≤ts.length:=by
 obtain⟨t,r,rfl,_,h⟩:=qbz h
 exact⟨_,_,h,by simp⟩
theorem qmm {m:Nat} {o c:Str} {ts ts':List PTok} {l:List Str} (h:qfw m o c ts= .ok l ts'):ts'.length≤ts.length:=by
 unfold qfw at h
 obtain⟨r,h,h1⟩:=qc5 h
 obtain⟨a,r2,h2,h⟩:=PR.bind_ok h
 have:=qtg _ _ _ _ h2
 obtain⟨r3,h,h3⟩:=qc5 h
 cases h
 omega
theorem qzu {R:Rd} (hR:LenR R) {o:Nat}:∀(n:Nat) (ts ts':List PTok) (l:List PExpr),qej R o n ts= .ok l ts'→ts'.length≤ts.length
 |0,_,_,_,h=>by cases h
 |n+1,ts,ts',l,h=>by
  simp only[qej]at h
  obtain⟨e,r,he,h⟩:=PR.bind_ok h
  have h1:=hR _ _ _ _ _ he
  split at h
  ·obtain⟨l1,r2,h2,h⟩:=PR.bind_ok h
   cases h
   have:=qzu hR n _ _ _ h2
   rw[wa]at this
   omega
  ·cases h;omega
theorem q16 {R:Rd} (hR:LenR R) {o:Nat}:∀(n:Nat) (ts ts':List PTok) (l:List (Str×PExpr)),qey R o n ts= .ok l ts'→ts'.length≤ts.length
 |0,_,_,_,h=>by cases h
 |n+1,ts,ts',l,h=>by
  simp only[qey]at h
  obtain⟨x,r,h,h1⟩:=qlj h
  obtain⟨r2,h,h2⟩:=qc5 h
  obtain⟨e,r3,he,h⟩:=PR.bind_ok h
  have h3:=hR _ _ _ _ _ he
  split at h
  ·obtain⟨l1,r4,h4,h⟩:=PR.bind_ok h
   cases h
   have:=q16 hR n _ _ _ h4
   rw[wa]at this
   omega
  ·cases h;omega
theorem q17 {m:Nat} {R:Rd} (hR:LenR R) {o:Nat} {op:Int} {ts ts':List PTok} {e:PExpr} (h:qja m R o op ts= .ok e ts'):ts'.length≤ts.length:=by
 unfold qja at h
 obtain⟨x,r,h,h1⟩:=qlj h
 obtain⟨r2,h,h2⟩:=qc5 h
 obtain⟨l,r3,hl,h⟩:=PR.bind_ok h
 have h3:=q16 hR _ _ _ _ hl
 obtain⟨r4,h,h4⟩:=qc5 h
 cases h
 omega
theorem pCall_le {m:Nat} {R:Rd} (hR:LenR R) {o:Nat} {x:Str} {ts ts':List PTok} {e:PExpr} (h:qii m R o x ts= .ok e ts'):ts'.length≤ts.length:=by
 unfold qii at h
 obtain⟨c,r,hc,h⟩:=PR.bind_ok h
 have h1:r.length≤ts.length:=by
  split at hc
  ·exact qmm hc
  ·cases hc;omega
 obtain⟨r2,h,h2⟩:=qc5 h
 obtain⟨l,r3,hl,h⟩:=PR.bind_ok h
 have h3:=qzu hR _ _ _ _ hl
 obtain⟨r4,h,h4⟩:=qc5 h
 cases h
 omega
theorem pAtom_le {m:Nat} {R:Rd} (hR:LenR R) {o:Nat} {ts ts':List PTok} {e:PExpr} (h:qhu m R o ts= .ok e ts'):ts'.length≤ts.length:=by
 unfold qhu at h
 split at h
 ·cases ts with
  |nil=>cases h
  |cons t r=>cases h;simp
 split at h
 ·cases ts with
  |nil=>cases h
  |cons t r=>cases h;simp
 split at h
 ·cases ts with
  |nil=>cases h
  |cons t r=>
   simp only at h
   split at h
   ·have:=pCall_le hR h;simp only[wb];omega
   ·cases h;simp
 split at h
 ·cases h;rw[wa];omega
 split at h
 ·cases h;rw[wa];omega
 split at h
 ·have:=q17 hR h;rw[wa]at this;omega
 split at h
 ·have:=q17 hR h;rw[wa]at this;omega
 obtain⟨r,h,h1⟩:=qc5 h
 obtain⟨x,r2,hx,h⟩:=PR.bind_ok h
 have h2:=hR _ _ _ _ _ hx
 obtain⟨r3,h,h3⟩:=qc5 h
 cases h
 omega
theorem q18:∀(n:Nat) (e0 e:PExpr) (ts ts':List PTok),qdz n e0 ts= .ok e ts'→ts'.length≤ts.length
 |0,_,_,_,_,h=>by cases h
 |n+1,e0,e,ts,ts',h=>by
  simp only[qdz]at h
  split at h
  ·obtain⟨x,r,h,h1⟩:=qlj h
   obtain⟨r2,h,h2⟩:=qc5 h
   obtain⟨y,r3,h,h3⟩:=qlj h
   obtain⟨r4,h,h4⟩:=qc5 h
   have:=q18 n _ _ _ _ h
   rw[wa]at h1
   omega
  ·cases h;omega
theorem q3q {m:Nat} {R:Rd} (hR:LenR R) {o:Nat} {ts ts':List PTok} {e:PExpr} (h:qd2 m R o ts= .ok e ts'):ts'.length≤ts.length:=by
 unfold qd2 at h
 obtain⟨a,r,ha,h⟩:=PR.bind_ok h
 have h1:=pAtom_le hR ha
 obtain⟨b,r2,hb,h⟩:=PR.bind_ok h
 have h2:r2.length≤r.length:=by
  split at hb
  ·obtain⟨k,r3,hk,hb⟩:=PR.bind_ok hb
   cases hb
   have:=hR _ _ _ _ _ hk
   rw[wa]at this
   omega
  ·cases hb;omega
 have h3:=q18 _ _ _ _ _ h
 omega
theorem q5i {m:Nat} {R:Rd} (hR:LenR R) {o:Nat} {ts ts':List PTok} {e:PExpr} (h:qef m R o ts= .ok e ts'):ts'.length≤ts.length:=by
 have one:∀{f:PExpr→PExpr},((R o 0 ts.tail).bind fun k ts=> .ok (f k) ts)= .ok e ts'→ts'.length≤ts.length:=by
  intro f h
  obtain⟨k,r,hk,h⟩:=PR.bind_ok h
  cases h
  have:=hR _ _ _ _ _ hk
  rw[wa]at this
  omega
 unfold qef at h
 split at h
 ·exact one h
 split at h
 ·exact one h
 split at h
 ·exact one h
 split at h
 ·obtain⟨a,r,ha,h⟩:=PR.bind_ok h
  have h1:=hR _ _ _ _ _ ha
  rw[wa]at h1
  obtain⟨r2,h,h2⟩:=qc5 h
  obtain⟨b,r3,hb,h⟩:=PR.bind_ok h
  have h3:=hR _ _ _ _ _ hb
  obtain⟨r4,h,h4⟩:=qc5 h
  obtain⟨c,r5,hc,h⟩:=PR.bind_ok h
  have h5:=hR _ _ _ _ _ hc
  cases h
  omega
 exact q3q hR h
theorem qv7 {R:Rd} (hR:LenR R) {o least:Nat}:∀(n most:Nat) (left e:PExpr) (ts ts':List PTok),qez R o least n most left ts= .ok e ts'→ts'.length≤ts.length
 |0,_,_,_,_,_,h=>by cases h
 |n+1,most,left,e,ts,ts',h=>by
  simp only[qez]at h
  split at h
  ·cases h;omega
  split at h
  ·obtain⟨a,r,ha,h⟩:=PR.bind_ok h
   have h1:=hR _ _ _ _ _ ha
   rw[wa]at h1
   cases h
   omega
  split at h
  ·obtain⟨a,r,ha,h⟩:=PR.bind_ok h
   have h1:=hR _ _ _ _ _ ha
   rw[wa]at h1
   have:=qv7 hR n _ _ _ _ _ h
   omega
  ·obtain⟨a,r,ha,h⟩:=PR.bind_ok h
   have h1:=hR _ _ _ _ _ ha
   rw[wa]at h1
   have:=qv7 hR n _ _ _ _ _ h
   omega
theorem qk6:∀n,LenR (pE n)
 |0=>fun o least ts e ts' h=>by cases h
 |n+1=>fun o least ts e ts' h=>by
  simp only[pE]at h
  split at h
  ·split at h
   ·cases h
   ·exact q5i (qk6 n) h
  ·obtain⟨a,r,ha,h⟩:=PR.bind_ok h
   have h1:=qk6 n _ _ _ _ _ ha
   have h2:=qv7 (qk6 n) _ _ _ _ _ _ h
   omega
end Go.Ab
namespace Go.Ab
open Go Go.Ab.Tab
structure Stp (H H':qab) (E:Eff) (y:List AVal):Prop where
 of:E.of H=H'
 p0:H'[0]? =some (.box y)
 box:∀(k:Nat) (cs:List AVal),k≠0→H[k]? =some (.box cs)→H'[k]? =some (.box cs)
 grow:∀v es T,Grow2 H v es T→Grow2 H' v es T
 dirt:∀b,0<b→b<H.length→E.dirt.contains b=false
 len:H'.length=H.length
theorem qzv {H:qab} {x:Blk} (h:H[0]? =some x):∃T,H=x::T:=by
 cases H with
 |nil=>cases h
 |cons a b=>simp at h;exact⟨b,by rw[h]⟩
theorem stp_of {T:qab} {x y:List AVal} {E:Eff} (h2:E.of (.box x::T)= .box y::T) (h3:∀b,0<b→b<T.length+1→E.dirt.contains b=false):Stp (.box x::T) (.box y::T) E y where
 of:=h2
 p0:=rfl
 box k cs hk hq:=by
  cases k with
  |zero=>exact(hk rfl).elim
  |succ k=>exact hq
 grow v es t g:=by
  have:=g.set (b:=0) (x:=x) (y:=y) rfl
  exact this
 dirt b h0 hb:=h3 b h0 hb
 len:=rfl
theorem stp {f:FuncId} {rest x y:List AVal} {v:AVal} {H:qab} (q0:H[0]? =some (.box x)) (g:qbi C f (.ptr 0 0::rest) [.box x] v [.box y]) (hr:qad rest=[]) (px:qad x=[]) (py:qad y=[]) (hv:refs v=[]):
 ∃E H',qai C H f (.ptr 0 0::rest)=some (.ret v E)∧Stp H H' E y:=by
 obtain⟨T,rfl⟩:=qzv q0
 obtain⟨E,h1,h2,h3⟩:=met3 g hr px py hv
 exact⟨E T,_,h1 T,stp_of (h2 T) (h3 T)⟩
structure Grw (H H':qab) (E:Eff) (b:Nat) (cs:List AVal) (off:Nat) (v:AVal) (es:List (List AVal)) (T:TypeId):Prop where
 at1:(E.of H)[b]? =some (.box cs)
 len:H.length≤(E.of H).length
 at2:H'[b]? =some (.box (cs.set off v))
 box:∀(k:Nat) (c:List AVal),k≠b→H[k]? =some (.box c)→H'[k]? =some (.box c)
 grow:Grow2 H' v es T
 other:∀v2 es2 T2,T2≠T→Grow2 H v2 es2 T2→Grow2 H' v2 es2 T2
theorem app_len {P:Program} {H:qab} {t:TypeId} {a b v:AVal} {E:Eff} (h:qb1 P H t a b=some (v,E)):H.length≤(E.of H).length:=by
 unfold qb1 at h
 repeat' split at h
 all_goals (try cases h)
 all_goals simp[Eff.of]
theorem qfq {H:qab} {b:Nat} {x:Blk} (h:H[b]? =some x):decide (b<H.length)=true:=decide_eq_true (wd.1 h).1
theorem grw {t T sz:Nat} (ok:qfg PP t T sz) {H:qab} {b:Nat} {cs:List AVal} (off:Nat) {v:AVal} {es fs:List (List AVal)} (hb:H[b]? =some (.box cs)) (g:Grow2 H v es T) (hl:es.length+fs.length≤qac) (h1:∀c∈es,c.length=sz) (h2:∀c∈fs,c.length=sz) (hne:¬fs=[]):
 ∃tk E,qb1 PP H t v (.slice fs .full)=some (.slice (es++fs) tk,E)∧Grw H ((E.of H).set b (.box (cs.set off (.slice (es++fs) tk)))) E b cs off (.slice (es++fs) tk) (es++fs) T:=by
 obtain⟨v',E,ha,hg,hB,hO⟩:=qml ok g hl h1 h2 hne
 obtain⟨tk,rfl⟩:∃tk,v'= .slice (es++fs) tk:=by rcases hg with h|⟨_,h,_⟩<;>exact⟨_,h⟩
 have hb':=hB _ _ hb
 have lb:=(wd.1 hb').1
 exact⟨tk,E,ha,hb',app_len ha,wf lb,fun k c hk hq=>by rw[wg (Ne.symm hk)];exact hB _ _ hq,hg.set hb',fun v2 es2 T2 hT g2=>(hO v2 es2 T2 hT g2).set hb'⟩
theorem Grow2.val {h:qab} {v:AVal} {es:List (List AVal)} {T:TypeId} (g:Grow2 h v es T):∃tk,v= .slice es tk:=by rcases g with h|⟨_,h,_⟩<;>exact⟨_,h⟩
theorem Stp.free {H H':qab} {E:Eff} {y:List AVal} (s:Stp H H' E y) {b:Nat} {cs:List AVal} (h0:0<b) (h:H[b]? =some (.box cs)):E.dirt.contains b=false:=s.dirt b h0 (wd.1 h).1
theorem quv:∀n,HypE (pE n)
 |0=>fun o least ts e ts' _ h=>by cases h
 |n+1=>fun o least ts e ts' hT h=>by
  have hR:=quv n
  by_cases hl:least=0
  ·subst hl
   simp only[pE,if_true]at h
   split at h
   ·cases h
   ·have hp:=prefix_c hR hT (fun h=>sampled_c hR (qk6 n) (parms_c hR (qk6 n) (o+1)) hT h) h
    exact⟨hp.1,fun _=>unary_c (by omega) hp.2,fun h0=>absurd h0 (by omega)⟩
  ·simp only[pE,if_neg hl]at h
   obtain⟨left,ts1,h1,h2⟩:=PR.bind_ok h
   exact⟨qv4 hR (by omega) _ _ _ _ (hR _ _ _ _ _ hT h1).1 h2,fun h0=>absurd h0 hl,fun _=>infix_c hR (by omega) hT h1 h2⟩
end Go.Ab
namespace Go.Ab
open Go Go.Ab.Tab
theorem res_g {T n:Nat} (ha:aggA PP T=some true) (hs:qaq PP T=some n) {s:St} {k b:Nat} {cs:List AVal} (h1:s.tmps[k]? =some (.ptr b 0)) (h2:s.heap[b]? =some (.box cs)) (h3:cs.length=n):resA PP [.cell k T] s=some [.agg cs]:=by
 simp only[resA,h1,qfe,h2,qek,ha,hs,wca]
 rw[w7 (by omega),if_pos h3]
theorem qrq {T n:Nat} (ha:aggA PP T=some true) (hs:qaq PP T=some n) {k b:Nat} {h1:qab} {s:St} {ex:AEx} {cs vs:List AVal} {ts:List PTok} {d:Nat} (hex:ex= .ret∨ex= .normal) (g1:s.tmps[k]? =some (.ptr b 0)) (g2:s.heap[b]? =some (.box cs)) (hlen:cs.length=n) (hv:cs.map qbj=vs) (hr:qad vs=[])
 (hb:s.heap[0]? =some (.box (pbox ts d))) (hh:s.heap.take 1=h1):finE PP 1 [.cell k T] (.agg vs) h1 (some (ex,s)):=
 qcy hex (res_g ha hs g1 g2 hlen) (by show AVal.agg (cs.map qbj)=_;rw[hv]) (by simp only[lowA,refs,hr];rfl) (stays1 hb) hh
theorem qrr (t:PTok) (r:List PTok) (d:Nat):C 198 [.ptr 0 0] [.box (pbox (t::r) d)]=some (.ret (.bool (qdi (t::r))) .same):=by
 have e0:qdi (t::r)=(t.sort==1||(qau (t::r)==[40])):=by
  unfold qdi qc3
  cases h:hasS [40] (t::r)
  ·have:=qg3 (s:=[40]) (by decide) h
   rw[this]
  ·have:=qg2 h
   rw[this]
 rw[e0]
 cases h1:(t.sort==1)
 ·cases h2:(qau (t::r)==[40])
  ·rw[C_fn rfl Tryz.func198 rfl (by kernel_rfl) (m:=11) rfl];simp only[Z3,simprocAttr,Tryz.f198,fx_198,qe0,qbb,h1,h2]
   exact qfi (by simp[Eff.dirt]) rfl rfl
  ·rw[C_fn rfl Tryz.func198 rfl (by kernel_rfl) (m:=11) rfl];simp only[Z3,simprocAttr,Tryz.f198,fx_198,qe0,qbb,h1,h2]
   exact qfi (by simp[Eff.dirt]) rfl rfl
 ·rw[C_fn rfl Tryz.func198 rfl (by kernel_rfl) (m:=11) rfl];simp only[Z3,simprocAttr,Tryz.f198,fx_198,qe0,qbb,h1]
  exact qfi (by simp[Eff.dirt]) rfl rfl
theorem qrs {R:Rd} (hR:HypE R) {m:Nat} {ts ts':List PTok} {q:PEq} (hT:TsOk ts) (h:pEq m R ts= .ok q ts'):
 TsOk ts'∧qbi C 199 [.ptr 0 0] [.box (pbox ts 0)] (.agg q.cells) [.box (pbox ts' 0)]:=by
 unfold pEq at h
 obtain⟨t,r,rfl⟩:=hT.ne
 obtain⟨l,ts1,hl,hk⟩:=PR.bind_ok h
 clear h
 have key:TsOk ts1→qbe [61] ts1 (fun ts=>(R 0 1 ts).bind fun e ts=>qbe [59] ts fun ts=> .ok ⟨l,e⟩ ts)= .ok q ts'→∃t1 r1 e ts2 t3 r3,ts1=t1::r1∧hasS [61] (t1::r1)=true∧TsOk r1∧R 0 1 r1= .ok e ts2∧ts2=t3::r3∧hasS [59] (t3::r3)=true∧TsOk r3∧q=⟨l,e⟩∧ts'=r3:=by
  intro hT1 h
  obtain⟨w1,h⟩:=qa5 h
  obtain⟨t1,r1,rfl,hT1',_,_⟩:=hT1.hasS w1
  obtain⟨e,ts2,he,h⟩:=PR.bind_ok h
  obtain⟨hT2,_⟩:=qds hR hT1' he
  obtain⟨w2,h⟩:=qa5 h
  obtain⟨t3,r3,rfl,hT3,_,_⟩:=hT2.hasS w2
  cases h
  exact⟨t1,r1,e,_,t3,r3,rfl,w1,hT1',he,rfl,w2,hT3,rfl,rfl⟩
 by_cases hp:hasS [40] (t::r)=true
 ·rw[if_pos hp]at hl
  obtain⟨hT1,g1⟩:=qec (d:=0) hT hl
  obtain⟨t1,r1,e,ts2,t3,r3,rfl,w1,hT1',he,rfl,w2,hT3,rfl,rfl⟩:=key hT1 hk
  obtain⟨_,ge⟩:=qds hR hT1' he
  refine⟨hT3,?_⟩
  obtain⟨E1,a1,a2⟩:=met g1 rfl (qaa _ _) (qaa _ _) rfl
  obtain⟨E2,b1,b2⟩:=qbr _ t1 r1 0 w1
  obtain⟨E3,c1,c2⟩:=ge.m rfl
  obtain⟨E4,d1,d2⟩:=qbr _ t3 ts' 0 w2
  have s0:=qg2 hp
  have se:∀x0 x1 x2 x3 x4,qar [x0,x1,x2,x3,x4] 0 e.cells=some e.cells:=fun _ _ _ _ _=>e.set0 _ rfl
  refine qa6 rfl Tryz.func199 rfl (by kernel_rfl) (m:=23) rfl ?_;simp only[Z3,simprocAttr,Tryz.f199,qjj,effs,qbb,s0,a1,a2,b1,b2,c1,c2,d1,d2,se]
  exact qrq (T:=62) ql3 qko (ts:=ts') (d:=0) (.inl rfl) rfl rfl (PEq.len ⟨l,e⟩) (PEq.strip ⟨l,e⟩) (PEq.norefs ⟨l,e⟩) rfl rfl
 ·rw[if_neg hp]at hl
  obtain⟨t0,r0,hc,hs,hl⟩:=qbz hl
  cases hc
  cases hl
  have hT1:=hT.tail (by rw[hs];decide)
  obtain⟨t1,r1,e,ts2,t3,r3,rfl,w1,hT1',he,rfl,w2,hT3,rfl,rfl⟩:=key hT1 hk
  obtain⟨_,ge⟩:=qds hR hT1' he
  refine⟨hT3,?_⟩
  obtain⟨E1,a1,a2⟩:=met (qdy t (t1::r1) 0 hs) rfl (qaa _ _) (qaa _ _) rfl
  obtain⟨E2,b1,b2⟩:=qbr _ t1 r1 0 w1
  obtain⟨E3,c1,c2⟩:=ge.m rfl
  obtain⟨E4,d1,d2⟩:=qbr _ t3 ts' 0 w2
  have s0:=qg3 (s:=[40]) (by decide) (wt.2 hp)
  have se:∀x0 x1 x2 x3 x4,qar [x0,x1,x2,x3,x4] 0 e.cells=some e.cells:=fun _ _ _ _ _=>e.set0 _ rfl
  refine qa6 rfl Tryz.func199 rfl (by kernel_rfl) (m:=23) rfl ?_;simp only[Z3,simprocAttr,Tryz.f199,qjj,effs,qbb,s0,a1,a2,b1,b2,c1,c2,d1,d2,se]
  exact qrq (T:=62) ql3 qko (ts:=ts') (d:=0) (.inl rfl) rfl rfl (PEq.len ⟨[t.text],e⟩) (by show List.map qbj (_::e.cells)=_;rw[List.map_cons,e.strip];rfl) (PEq.norefs ⟨[t.text],e⟩) rfl rfl
end Go.Ab
namespace Go.Ab
open Go Go.Ab.Tab
theorem qp8 {R:Rd} (hLen:LenR R) {m:Nat} {ts ts':List PTok} {q:PEq} (h:pEq m R ts= .ok q ts'):ts'.length<ts.length:=by
 unfold pEq at h
 obtain⟨l,ts1,hl,h⟩:=PR.bind_ok h
 have h0:ts1.length≤ts.length:=by
  split at hl
  ·exact qmm hl
  ·obtain⟨x,r,h1,h2⟩:=qlj hl;cases h1;exact h2
 obtain⟨w1,h⟩:=qa5 h
 obtain⟨e,ts2,he,h⟩:=PR.bind_ok h
 obtain⟨r,h1,h2⟩:=qc5 h
 cases h1
 have h3:=hLen _ _ _ _ _ he
 have h4:ts1.tail.length<ts1.length:=by
  cases ts1 with
  |nil=>simp[hasS]at w1
  |cons a b=>simp
 omega
theorem qyu {R:Rd} (hR:HypE R) {m:Nat}:∀(n:Nat) (ts ts':List PTok) (l:List PEq),TsOk ts→pEqs R m n ts= .ok l ts'→TsOk ts'
 |0,_,_,_,_,h=>by cases h
 |n+1,ts,ts',l,hT,h=>by
  simp only[pEqs]at h
  split at h
  ·obtain⟨q,t1,h1,h2⟩:=PR.bind_ok h
   obtain⟨l1,t2,h3,h4⟩:=PR.bind_ok h2
   cases h4
   exact qyu hR n _ _ _ (qrs hR hT h1).1 h3
  ·cases h;exact hT
theorem q19 {R:Rd} (hR:HypE R):∀(n:Nat) (ts ts':List PTok) (l:List PWay),TsOk ts→qfy R n ts= .ok l ts'→TsOk ts'
 |0,_,_,_,_,h=>by cases h
 |n+1,ts,ts',l,hT,h=>by
  simp only[qfy]at h
  split at h
  ·rename_i hh
   obtain⟨t,r,rfl,hTr,_,_⟩:=hT.hasS hh
   obtain⟨e,t1,h1,h2⟩:=PR.bind_ok h
   have hTe:=(qds hR hTr h1).1
   obtain⟨w1,h3⟩:=qa5 h2
   obtain⟨ta,ra,rfl,hTa,_,_⟩:=hTe.hasS w1
   obtain⟨tb,rb,hc,hs,h4⟩:=qbz h3
   have hTb:TsOk rb:=by rw[we]at hc;subst hc;exact hTa.tail (by rw[hs];decide)
   obtain⟨w2,h5⟩:=qa5 h4
   obtain⟨td,rd,rfl,hTd,_,_⟩:=hTb.hasS w2
   obtain⟨l1,t2,h6,h7⟩:=PR.bind_ok h5
   cases h7
   exact q19 hR n _ _ _ hTd h6
  ·cases h;exact hT
structure StSt where
 n:Nat
 acc:List PEq
 v:AVal
 ts:List PTok
structure WySt where
 n:Nat
 acc:List PWay
 v:AVal
 ts:List PTok
theorem qj1 {R:Rd} (hR:HypE R) (hLen:LenR R) {m:Nat} {ts ts':List PTok} {s:PState} (hT:TsOk ts) (h:qhf m R ts= .ok s ts'):
 TsOk ts'∧qbi C 200 [.ptr 0 0] [.box (pbox ts 0)] (.agg s.cells) [.box (pbox ts' 0)]:=by
 unfold qhf at h
 obtain⟨t,r,rfl,hs,h⟩:=qbz h
 have hTr:=hT.tail (by rw[hs];decide)
 obtain⟨w1,h⟩:=qa5 h
 obtain⟨t1,r1,rfl,hT1,_,_⟩:=hTr.hasS w1
 obtain⟨qs,ts1,hq,h⟩:=PR.bind_ok h
 obtain⟨ws,ts2,hw,h⟩:=PR.bind_ok h
 cases h
 have hle:=hT1.le
 rw[we]at hq
 obtain⟨E1,a1,a2⟩:=met (qfp t (t1::r1) 0 hs) rfl (qaa _ _) (qaa _ _) rfl
 obtain⟨E2,b1,b2⟩:=qbr _ t1 r1 0 w1
 suffices hx:TsOk ts1→TsOk ts'→qbi C 200 [.ptr 0 0] [.box (pbox (t::t1::r1) 0)] (.agg (PState.cells ⟨t.text,qs,ws⟩)) [.box (pbox ts' 0)] by
  have h1:=qyu hR m _ _ _ hT1 hq
  have h2:=q19 hR m _ _ _ h1 hw
  exact⟨h2,hx h1 h2⟩
 intro hTs1 hTs2
 refine qa6 rfl Tryz.func200 rfl (by kernel_rfl) (m:=39) rfl ?_;simp only[Z3,simprocAttr,Tryz.f200,qc9,effs,a1,a2,b1,b2]
 generalize hb:qam PP cmp0 C lpC _=f;generalize hl:lpC f _=r
 obtain⟨ex,s',rfl,rfl,h2⟩:=qch (α:=StSt) hl [11,12,13,14,15,16,17,18,19] (fun _=>[]) (fun a h=>h[0]? =some (.box (pbox a.ts 0))∧h[1]? =some (.box [.str [],.slice [] .full,.slice [] .full])∧h[2]? =some (.box [.str t.text,a.v,.slice [] .full])∧Grow2 h a.v (a.acc.map PEq.cells) 62∧TsOk a.ts∧a.acc.length+a.ts.length≤65538∧(pEqs R m a.n a.ts).bind (fun l2 ts2=> .ok (a.acc++l2) ts2)= .ok qs ts1) (fun a=>a.n) (fun _=>())
  (fun ts _ ex s=>ex= .exit 0∧OutT [11,12,13,14,15,16,17,18,19] ts [] (fun h=>h[0]? =some (.box (pbox ts1 0))∧h[1]? =some (.box [.str [],.slice [] .full,.slice [] .full])∧∃tq,h[2]? =some (.box [.str t.text,.slice (qs.map PEq.cells) tq,.slice [] .full])) s) ⟨m,[],.slice [] .full,r1⟩ ⟨rfl,rfl,rfl,.inl rfl,hT1,by simp only[wc];omega,by rw[hq];rfl⟩ (by simp only[AtT,ats]) (by
   rintro⟨n,acc,v,ts⟩ j G dd ⟨q0,q1,q2,gv,hTs,hln,hp⟩
   clear hl;subst hb
   simp only at q0 q1 q2 gv hTs hln hp ⊢
   obtain⟨tk,hv⟩:=gv.val
   subst hv
   obtain⟨tt,rt,rfl⟩:=hTs.ne
   have cb:=qcf (c:=C) (b:=0) (H:=G) (rest:=[]) rfl q0 (qaa _ _) (qrr tt rt 0) rfl
   cases n with
   |zero=>cases hp
   |succ n=>
    simp only[pEqs]at hp
    cases hbg:qdi (tt::rt)
    ·rw[hbg]at hp cb
     simp only[w6,if_false,PR.bind,wba]at hp
     cases hp
     simp only[Z3,simprocAttr,effs,qc9,cb]
     exact .inr ⟨_,_,rfl,by simp,rfl,by simp only[OutT,AtT,ats],q0,q1,tk,q2⟩
    ·rw[hbg]at hp cb
     simp only[if_true]at hp
     obtain⟨l2,ts2',hp1,hp2⟩:=PR.bind_ok hp
     obtain⟨q,tsq,hq1,hp1⟩:=PR.bind_ok hp1
     obtain⟨l3,ts3,hp3,hp1⟩:=PR.bind_ok hp1
     cases hp1
     cases hp2
     obtain⟨hTq,gq⟩:=qrs hR hTs hq1
     have hlt:=qp8 hLen hq1
     obtain⟨E1,G1,c1,st1⟩:=stp q0 gq rfl (qaa _ _) (qaa _ _) (by simp only[refs];exact q.norefs)
     have p1:=st1.box 1 _ (by decide) q1
     have p2:=st1.box 2 _ (by decide) q2
     have o1:=st1.of
     have fr:=st1.free (by decide) q2
     obtain⟨tk2,E2,ha,gr⟩:=grw ql7 1 (fs:=[q.cells]) p2 (st1.grow _ _ _ gv) (by simp only[wm,wb,wc]at hln ⊢;unfold qac;omega) (by intro c hc;obtain⟨x,_,rfl⟩:=wz.1 hc;exact x.len) (by intro c hc;simp only[ww,wk,or_false]at hc;subst hc;exact q.len) (by simp)
     have o2:=gr.at1
     have d2:=qfq q2
     have d3:decide (G.length≤G1.length)=true:=decide_eq_true (by rw[st1.len];exact wv _)
     have d4:decide (G.length≤(E2.of G1).length)=true:=decide_eq_true (by rw[←st1.len];exact gr.len)
     simp only[Z3,simprocAttr,effs,qc9,cb,q2,d2,c1,o1,qxm,ha,o2,d3,d4]
     rw[qcr]
     ·refine .inl ⟨⟨n,acc++[q],.slice (acc.map PEq.cells++[q.cells]) tk2,tsq⟩,_,rfl,⟨gr.box 0 _ (by decide) st1.p0,gr.box 1 _ (by decide) p1,gr.at2,?_,hTq,?_,?_⟩,by simp only[AtT,ats],by simp only[];omega,trivial⟩
      ·rw[wh];exact gr.grow
      ·simp only[wi,wb,wc]at hln hlt ⊢;omega
      ·simp only[hp3,PR.bind,wu,wj]
     ·kernel_rfl
     ·simp only[qaj,qbx,qae,qcp,fr,w8,waa,w9,wo,wq])
 obtain⟨j,H,dd,hI,rfl⟩:=h2.elim
 clear hl
 have i0:=hI.1
 have i1:=hI.2.1
 obtain⟨tq,i2⟩:=hI.2.2
 clear hI h2
 simp only[Z3,simprocAttr,effs,qc9]
 generalize hb:qam PP cmp0 C lpC _=f;generalize hl:lpC f _=r
 obtain⟨ex,s',rfl,rfl,h2⟩:=qch (α:=WySt) hl [4,20,21,22,23,24,25,26,27,28,29,30,31,32,33,34,35,36,37,38] (fun _=>[]) (fun a h=>h[0]? =some (.box (pbox a.ts 0))∧h[1]? =some (.box [.str [],.slice [] .full,.slice [] .full])∧h[2]? =some (.box [.str t.text,.slice (qs.map PEq.cells) tq,a.v])∧Grow2 h a.v (a.acc.map PWay.cells) 142∧TsOk a.ts∧a.acc.length+a.ts.length≤65538∧(qfy R a.n a.ts).bind (fun l2 ts2=> .ok (a.acc++l2) ts2)= .ok ws ts') (fun a=>a.n) (fun _=>())
  (fun ts _ ex s=>ex= .exit 2∧OutT [4,20,21,22,23,24,25,26,27,28,29,30,31,32,33,34,35,36,37,38] ts [] (fun h=>h[0]? =some (.box (pbox ts' 0))∧h[1]? =some (.box [.str [],.slice [] .full,.slice [] .full])∧∃tw,h[2]? =some (.box [.str t.text,.slice (qs.map PEq.cells) tq,.slice (ws.map PWay.cells) tw])) s) ⟨m,[],.slice [] .full,ts1⟩ ⟨i0,i1,i2,.inl rfl,hTs1,by simp only[wc];have:=hTs1.le;omega,by rw[hw];rfl⟩ (by simp only[AtT,ats]) (by
   rintro⟨n,acc,v,ts⟩ j G dd ⟨q0,q1,q2,gv,hTs,hln,hp⟩
   clear hl;subst hb
   simp only at q0 q1 q2 gv hTs hln hp ⊢
   obtain⟨tk,hv⟩:=gv.val
   subst hv
   obtain⟨tt,rt,rfl⟩:=hTs.ne
   cases n with
   |zero=>cases hp
   |succ n=>
    simp only[qfy]at hp
    cases hh:hasS [117,110,116,105,108] (tt::rt)
    ·rw[hh]at hp
     simp only[w6,if_false,PR.bind,wba]at hp
     cases hp
     have cb:=qcf (c:=C) (b:=0) (H:=G) (rest:=[.str [117,110,116,105,108]]) rfl q0 (qaa _ _) (qhx [117,110,116,105,108] (by decide) tt rt 0 hh) rfl
     simp only[Z3,simprocAttr,effs,qc9,cb]
     exact .inr ⟨_,_,rfl,by simp,rfl,by simp only[OutT,AtT,ats],q0,q1,tk,q2⟩
    ·rw[hh]at hp
     simp only[if_true,we]at hp
     obtain⟨_,_,hc,hTr,_,_⟩:=hTs.hasS hh
     cases hc
     obtain⟨l2,ts2',hp1,hp2⟩:=PR.bind_ok hp
     obtain⟨e,tse,he,k1⟩:=PR.bind_ok hp1
     obtain⟨hTe,ge⟩:=qds hR hTr he
     have hel:=hLen _ _ _ _ _ he
     obtain⟨w1,k2⟩:=qa5 k1
     obtain⟨t1,r1,hc,hT1,_,_⟩:=hTe.hasS w1
     subst hc
     rw[we]at k2
     obtain⟨t2,r2,hc,hs2,k3⟩:=qbz k2
     subst hc
     have hT2:=hT1.tail (by rw[hs2];decide)
     obtain⟨w3,k4⟩:=qa5 k3
     obtain⟨t3,r3,hc,hT3,_,_⟩:=hT2.hasS w3
     subst hc
     rw[we]at k4
     obtain⟨l3,ts3,hp3,k5⟩:=PR.bind_ok k4
     cases k5
     cases hp2
     obtain⟨E1,G1,c1,s1⟩:=stp q0 (qem [117,110,116,105,108] tt rt 0 hh) rfl (qaa _ _) (qaa _ _) rfl
     obtain⟨E2,G2,c2,s2⟩:=stp s1.p0 ge rfl (qaa _ _) (qaa _ _) (by simp only[refs];exact e.norefs)
     obtain⟨G3,hG3⟩:∃G3,G3=G2++[Blk.box e.cells]:=⟨_,rfl⟩
     have hb3:∀(k:Nat) (cs:List AVal),G2[k]? =some (Blk.box cs)→G3[k]? =some (Blk.box cs):=fun k cs h=>by rw[hG3];exact Boxes.app _ _ _ _ h
     have he3:G3[G2.length]? =some (.box e.cells):=by rw[hG3];simp
     have hk0:G2.length≠0:=fun h=>by have:=(wd.1 s2.p0).1;omega
     obtain⟨E3,G4,c3,s3⟩:=stp (hb3 _ _ s2.p0) (qhg [116,104,101,110] t1 (t2::t3::r3) 0 w1) rfl (qaa _ _) (qaa _ _) rfl
     obtain⟨E4,G5,c4,s4⟩:=stp s3.p0 (qfp t2 (t3::r3) 0 hs2) rfl (qaa _ _) (qaa _ _) rfl
     have b1:=s1.box 2 _ (by decide) q2
     have b2:=s2.box 2 _ (by decide) b1
     have b3:=hb3 2 _ b2
     have b4:=s3.box 2 _ (by decide) b3
     have b5:=s4.box 2 _ (by decide) b4
     have k4:=s3.box _ _ hk0 he3
     have z5:=s4.box 1 _ (by decide) (s3.box 1 _ (by decide) (hb3 1 _ (s2.box 1 _ (by decide) (s1.box 1 _ (by decide) q1))))
     have gv5:=s4.grow _ _ _ (s3.grow _ _ _ (hG3▸(s2.grow _ _ _ (s1.grow _ _ _ gv)).box [Blk.box e.cells]))
     have f2:=s4.free (by decide) b4
     have fk:=s4.free (Nat.pos_of_ne_zero hk0) k4
     obtain⟨tk2,E5,ha,gr⟩:=grw qm2 2 (fs:=[PWay.cells ⟨e,t2.text⟩]) b5 gv5 (by simp only[wm,wb,wc]at hln ⊢;unfold qac;omega) (by intro c hc;obtain⟨x,_,rfl⟩:=wz.1 hc;exact x.len) (by intro c hc;simp only[ww,wk,or_false]at hc;subst hc;exact PWay.len _) (by simp)
     obtain⟨G6,hG6⟩:∃G6,G6=(E5.of G5).set 2 (.box ([AVal.str t.text,.slice (qs.map PEq.cells) tq,.slice (acc.map PWay.cells) tk].set 2 (.slice (acc.map PWay.cells++[PWay.cells ⟨e,t2.text⟩]) tk2))):=⟨_,rfl⟩
     rw[←hG6]at gr
     have g6:(E5.of G5).set 2 (.box [AVal.str t.text,.slice (qs.map PEq.cells) tq,.slice (acc.map PWay.cells++[PWay.cells ⟨e,t2.text⟩]) tk2])=G6:=by rw[hG6];rfl
     obtain⟨E6,G7,c6,s6⟩:=stp (gr.box 0 _ (by decide) s4.p0) (qhg [59] t3 r3 0 w3) rfl (qaa _ _) (qaa _ _) rfl
     have o1:=s1.of
     have o2:=s2.of
     have o3:=s3.of
     have o4:=s4.of
     have o5:=gr.at1
     have o6:=s6.of
     have d2:=qfq b4
     have dk:=qfq k4
     have d3:decide (G4.length≤G5.length)=true:=decide_eq_true (by rw[s4.len];exact wv _)
     have d4:decide (G4.length≤(E5.of G5).length)=true:=decide_eq_true (by rw[←s4.len];exact gr.len)
     have se:∀x0 x1 x2 x3 x4:AVal,qar [x0,x1,x2,x3,x4] 0 e.cells=some e.cells:=fun _ _ _ _ _=>e.set0 _ rfl
     have sw:qar (e.cells++[AVal.str []]) 5 [.str t2.text]=some (PWay.cells ⟨e,t2.text⟩):=by show _=some (e.cells++_);rw[e.cells_eq];rfl
     simp only[Z3,simprocAttr,effs,qc9,c1,o1,c2,o2,se,sw,←hG3,c3,o3,b4,k4,d2,dk,c4,o4,quj,ha,o5,d3,d4,g6,c6,o6]
     rw[qcr]
     ·simp only[Z3,simprocAttr,effs,qc9,c6,o6]
      refine .inl ⟨⟨n,acc++[⟨e,t2.text⟩],.slice (acc.map PWay.cells++[PWay.cells ⟨e,t2.text⟩]) tk2,r3⟩,_,rfl,⟨s6.p0,s6.box 1 _ (by decide) (gr.box 1 _ (by decide) z5),s6.box 2 _ (by decide) gr.at2,?_,hT3,?_,?_⟩,by simp only[AtT,ats],by simp only[];omega,trivial⟩
      ·rw[wh];exact s6.grow _ _ _ gr.grow
      ·simp only[wi,wb,wc]at hln hel ⊢;omega
      ·simp only[hp3,PR.bind,wu,wj]
     ·kernel_rfl
     ·simp only[qaj,qbx,qae,qcp,f2,fk,w8,waa,w9,wo,wq])
 obtain⟨j,H,dd,hI,rfl⟩:=h2.elim
 clear hl
 have i0:=hI.1
 have i1:=hI.2.1
 obtain⟨tw,i2⟩:=hI.2.2
 clear hI h2
 simp only[Z3,simprocAttr,effs,qc9,i1,i2]
 have l1:=(wd.1 i1).1
 have hb0:∀y,(H.set 1 y)[0]? =some (.box (pbox ts' 0)):=fun y=>by rw[wg (by decide)];exact i0
 exact qrq (T:=71) (k:=2) (b:=1) ql5 qkp (ts:=ts') (d:=0) (.inl rfl) rfl (wf l1) rfl rfl rfl (hb0 _) (qoz (hb0 _))
end Go.Ab
namespace Go.Ab
open Go Go.Ab.Tab
theorem want2_c (s1 s2:Str) (t:PTok) (t2:PTok) (r:List PTok) (d:Nat) (h:hasS s1 (t::t2::r)=true) (h2:hasS s2 (t2::r)=true):qbi C 78 [.ptr 0 0,.slice [[.str s1],[.str s2]] .full] [.box (pbox (t::t2::r) d)] (.tuple []) [.box (pbox r d)]:=by
 obtain⟨E,e1,e2⟩:=qda s1 t (t2::r) d h
 obtain⟨F,f1,f2⟩:=qda s2 t2 r d h2
 refine qa6 rfl Tryz.func78 rfl (by kernel_rfl) (m:=17) rfl ?_;simp only[Z3,Nat.reduceAdd,Nat.reduceBEq,Int.reduceBEq,Int.reduceBNe,Int.reduceLT,Int.reduceLE,Tryz.f78,qig,effs,e1,e2]
 have w1:qc1 .i64 (0+1)=1:=rfl
 have w2:qc1 .i64 (1+1)=2:=rfl
 have d1:decide ((0:Int)<((2:Nat):Int))=true:=rfl
 have d2:decide ((1:Int)<((2:Nat):Int))=true:=rfl
 have d0:decide ((2:Int)<((2:Nat):Int))=false:=rfl
 have g0:([[AVal.str s1],[AVal.str s2]]:List (List AVal))[0]? =some [.str s1]:=rfl
 have g1:([[AVal.str s1],[AVal.str s2]]:List (List AVal))[1]? =some [.str s2]:=rfl
 rw[qh1]
 simp only[Z3,Nat.reduceAdd,Nat.reduceBEq,Int.reduceBEq,Int.reduceBNe,Int.reduceLT,Int.reduceLE,effs,qig,e1,e2,d1,g0,w1]
 rw[qh1]
 simp only[Z3,Nat.reduceAdd,Nat.reduceBEq,Int.reduceBEq,Int.reduceBNe,Int.reduceLT,Int.reduceLE,effs,qig,f1,f2,d2,g1,w2]
 rw[qh1]
 simp only[Z3,Nat.reduceAdd,Nat.reduceBEq,Int.reduceBEq,Int.reduceBNe,Int.reduceLT,Int.reduceLE,effs,qig,d0]
 exact qcy (.inr rfl) rfl rfl rfl (stays1 (ts:=r) (d:=d) rfl) rfl
def pZero:PItem:=⟨⟨[],eZero⟩,[]⟩
theorem res_gb {T n:Nat} (ha:aggA PP T=some true) (hs:qaq PP T=some n) {s:St} {k b k2:Nat} {cs:List AVal} {x:AVal} (h1:s.tmps[k]? =some (.ptr b 0)) (h2:s.heap[b]? =some (.box cs)) (h3:cs.length=n) (h4:s.tmps[k2]? =some x):resA PP [.cell k T,.tmp k2] s=some [.agg cs,x]:=by
 simp only[resA,h1,qfe,h2,qek,ha,hs,wca,h4]
 rw[w7 (by omega),if_pos h3]
theorem fin_gb {T n:Nat} (ha:aggA PP T=some true) (hs:qaq PP T=some n) {k b k2:Nat} {bb:Bool} {h1:qab} {s:St} {ex:AEx} {cs vs:List AVal} {ts:List PTok} {d:Nat} (hex:ex= .ret∨ex= .normal) (g1:s.tmps[k]? =some (.ptr b 0)) (g2:s.heap[b]? =some (.box cs)) (hlen:cs.length=n) (g3:s.tmps[k2]? =some (.bool bb)) (hv:cs.map qbj=vs) (hr:qad vs=[])
 (hb:s.heap[0]? =some (.box (pbox ts d))) (hh:s.heap.take 1=h1):finE PP 1 [.cell k T,.tmp k2] (.tuple [.agg vs,.bool bb]) h1 (some (ex,s)):=
 qcy hex (res_gb ha hs g1 g2 hlen g3) (by show AVal.tuple [.agg (cs.map qbj),.bool bb]=_;rw[hv]) (by simp only[lowA,refs,qad,hr];rfl) (stays1 hb) hh
theorem qlk (t:PTok) (r:List PTok) (d:Nat) (H:qab):qai C (.box (pbox (t::r) d)::H) 198 [.ptr 0 0]=some (.ret (.bool (qdi (t::r))) .same):=
 qcf (rest:=[]) rfl rfl (qaa _ _) (qrr t r d) rfl
theorem item_eq {R:Rd} (hR:HypE R) {m:Nat} {ts ts':List PTok} {q:PEq} (hT:TsOk ts) (hb:qdi ts=true) (h:pEq m R ts= .ok q ts'):
 qbi C 136 [.ptr 0 0] [.box (pbox ts 0)] (.tuple [.agg (PItem.cells ⟨q,[]⟩),.bool true]) [.box (pbox ts' 0)]:=by
 obtain⟨_,g⟩:=qrs hR hT h
 obtain⟨t,r,rfl⟩:=hT.ne
 obtain⟨E,e1,e2⟩:=met g rfl (qaa _ _) (qaa _ _) (by simp only[refs];exact q.norefs)
 have sq:qar [.slice [] .full,.int .i64 0,.str [],.int .i64 0,.slice [] .full,.slice [] .full,.slice [] .full] 0 q.cells=some (q.cells++[.slice [] .full]):=by
  simp only[qar,q.len];rfl
 have hbg:=qlk t r 0
 rw[hb]at hbg
 have sl:(q.cells++[AVal.slice [] .full]).length=7:=by simp[q.len]
 have so:(q.cells++[AVal.slice [] .full]).all oneA=true:=by simp[q.ones];rfl
 have sz2:qar [.slice [] .full,.int .i64 0,.str [],.int .i64 0,.slice [] .full,.slice [] .full,.slice [] .full] 0 (q.cells++[AVal.slice [] .full])=some (q.cells++[AVal.slice [] .full]):=qb7 (by rw[sl];rfl)
 refine qa6 rfl Tryz.func136 rfl (by kernel_rfl) (m:=33) rfl ?_;simp only[Z3,Nat.reduceAdd,Nat.reduceBEq,Int.reduceBEq,Int.reduceBNe,Int.reduceLT,Int.reduceLE,Tryz.f136,qfo,effs,hbg,e1,e2,q.len,q.ones,sq,sl,so,sz2]
 exact fin_gb (T:=65) (k:=2) (b:=1) (k2:=3) qib qhq (ts:=ts') (d:=0) (.inl rfl) rfl rfl sl rfl (by rw[wh,q.strip];rfl) (PItem.norefs ⟨q,[]⟩) rfl rfl
theorem item_no {t:PTok} {r:List PTok} (hb:qdi (t::r)=false) (h:hasS [97,117,116,111,109,97,116,111,110] (t::r)=false):
 qbi C 136 [.ptr 0 0] [.box (pbox (t::r) 0)] (.tuple [.agg pZero.cells,.bool false]) [.box (pbox (t::r) 0)]:=by
 have hbg:=qlk t r 0
 rw[hb]at hbg
 have ta:=qev [97,117,116,111,109,97,116,111,110] (by decide) t r 0 h
 refine qa6 rfl Tryz.func136 rfl (by kernel_rfl) (m:=33) rfl ?_;simp only[Z3,Nat.reduceAdd,Nat.reduceBEq,Int.reduceBEq,Int.reduceBNe,Int.reduceLT,Int.reduceLE,Tryz.f136,qfo,effs,hbg,ta]
 exact fin_gb (T:=65) (k:=2) (b:=1) (k2:=3) qib qhq (ts:=t::r) (d:=0) (.inl rfl) rfl rfl rfl rfl rfl rfl rfl rfl
theorem qrt {R:Rd} (hR:HypE R) (hLen:LenR R) {m:Nat}:∀(n:Nat) (ts ts':List PTok) (l:List PState),TsOk ts→qcg R m n ts= .ok l ts'→TsOk ts'
 |0,_,_,_,_,h=>by cases h
 |n+1,ts,ts',l,hT,h=>by
  simp only[qcg]at h
  obtain⟨s,t1,h1,h2⟩:=PR.bind_ok h
  have hT1:=(qj1 hR hLen hT h1).1
  split at h2
  ·rename_i hh
   obtain⟨t,r,rfl,hTr,_,_⟩:=hT1.hasS hh
   obtain⟨l1,t2,h3,h4⟩:=PR.bind_ok h2
   cases h4
   exact qrt hR hLen n _ _ _ hTr h3
  ·cases h2;exact hT1
theorem pEqs_le {R:Rd} (hLen:LenR R) {m:Nat}:∀(n:Nat) (ts ts':List PTok) (l:List PEq),pEqs R m n ts= .ok l ts'→ts'.length≤ts.length
 |0,_,_,_,h=>by cases h
 |n+1,ts,ts',l,h=>by
  simp only[pEqs]at h
  split at h
  ·obtain⟨q,t1,h1,h2⟩:=PR.bind_ok h
   obtain⟨l1,t2,h3,h4⟩:=PR.bind_ok h2
   cases h4
   have:=pEqs_le hLen n _ _ _ h3
   have:=qp8 hLen h1
   omega
  ·cases h;exact wv _
theorem q2a {R:Rd} (hLen:LenR R):∀(n:Nat) (ts ts':List PTok) (l:List PWay),qfy R n ts= .ok l ts'→ts'.length≤ts.length
 |0,_,_,_,h=>by cases h
 |n+1,ts,ts',l,h=>by
  simp only[qfy]at h
  split at h
  ·obtain⟨e,t1,h1,h2⟩:=PR.bind_ok h
   have h0:=hLen _ _ _ _ _ h1
   obtain⟨r1,h3,h4⟩:=qc5 h2
   obtain⟨x,r2,h5,h6⟩:=qlj h3
   obtain⟨r3,h7,h8⟩:=qc5 h5
   obtain⟨l1,t2,h9,h10⟩:=PR.bind_ok h7
   cases h10
   have:=q2a hLen n _ _ _ h9
   rw[wa]at h0
   omega
  ·cases h;exact wv _
theorem qo1 {R:Rd} (hLen:LenR R) {m:Nat} {ts ts':List PTok} {s:PState} (h:qhf m R ts= .ok s ts'):ts'.length<ts.length:=by
 unfold qhf at h
 obtain⟨t,r,rfl,_,h⟩:=qbz h
 obtain⟨r1,h,h1⟩:=qc5 h
 obtain⟨q,t1,h2,h⟩:=PR.bind_ok h
 obtain⟨w,t2,h3,h⟩:=PR.bind_ok h
 cases h
 have:=pEqs_le hLen _ _ _ _ h2
 have:=q2a hLen _ _ _ _ h3
 simp only[wb]
 omega
structure ItSt where
 n:Nat
 acc:List PState
 v:AVal
 ts:List PTok
theorem qzw {R:Rd} (hR:HypE R) (hLen:LenR R) {m n:Nat} {t:PTok} {r ts1 ts':List PTok} {ss:List PState} (hT:TsOk (t::r)) (hb:qdi (t::r)=false) (hh:hasS [97,117,116,111,109,97,116,111,110] (t::r)=true)
 (h0:hasS [115,116,97,116,101] r=true) (h1:qcg R m n r.tail= .ok ss ts1) (h2:hasS [101,110,100] ts1=true) (h3:hasS [59] ts1.tail=true) (h4:ts'=ts1.tail.tail):
 TsOk ts'∧qbi C 136 [.ptr 0 0] [.box (pbox (t::r) 0)] (.tuple [.agg (PItem.cells ⟨⟨[],eZero⟩,ss⟩),.bool true]) [.box (pbox ts' 0)]:=by
 have hbg:=qlk t r 0
 rw[hb]at hbg
 obtain⟨E,e1,e2⟩:=qda [97,117,116,111,109,97,116,111,110] t r 0 hh
 obtain⟨_,_,hc,hTr,_,_⟩:=hT.hasS hh
 cases hc
 obtain⟨t1,r1,hc,hT1,_,_⟩:=hTr.hasS h0
 subst hc
 rw[we]at h1
 obtain⟨E2,b1,b2⟩:=qbr [115,116,97,116,101] t1 r1 0 h0
 have hTs1:=qrt hR hLen _ _ _ _ hT1 h1
 obtain⟨t5,r5,hc,hT5,_,_⟩:=hTs1.hasS h2
 subst hc
 rw[we]at h3 h4
 obtain⟨t6,r6,hc,hT6,_,_⟩:=hT5.hasS h3
 subst hc
 rw[we]at h4
 subst h4
 refine⟨hT6,?_⟩
 cases n with
 |zero=>cases h1
 |succ n=>
 simp only[qcg]at h1
 obtain⟨s0,ts0,hs0,h1⟩:=PR.bind_ok h1
 obtain⟨hT0,g0⟩:=qj1 hR hLen hT1 hs0
 obtain⟨E3,c1,c2⟩:=met g0 rfl (qaa _ _) (qaa _ _) (by simp only[refs];exact s0.norefs)
 have hle:=hT0.le
 refine qa6 rfl Tryz.func136 rfl (by kernel_rfl) (m:=33) rfl ?_;simp only[Z3,Nat.reduceAdd,Nat.reduceBEq,Int.reduceBEq,Int.reduceBNe,Int.reduceLT,Int.reduceLE,Tryz.f136,qfo,effs,hbg,e1,e2,b1,b2,c1,c2,qit]
 generalize hb:qam PP cmp0 C lpC _=f;generalize hl:lpC f _=r
 obtain⟨ex,s',rfl,rfl,h2⟩:=qch (α:=ItSt) hl [21,22,23,24,25,26,27,28,29] (fun _=>[]) (fun a h=>h[0]? =some (.box (pbox a.ts 0))∧h[1]? =some (.box [.slice [] .full,.int .i64 0,.str [],.int .i64 0,.slice [] .full,.slice [] .full,.slice [] .full])∧h[2]? =some (.box [.slice [] .full,.int .i64 0,.str [],.int .i64 0,.slice [] .full,.slice [] .full,a.v])∧Grow2 h a.v (a.acc.map PState.cells) 71∧TsOk a.ts∧a.acc.length+a.ts.length≤65538∧(if hasS [115,116,97,116,101] a.ts=true then(qcg R m a.n a.ts.tail).bind fun l2 ts2=> .ok (a.acc++l2) ts2 else .ok a.acc a.ts)= .ok ss (t5::t6::ts')) (fun a=>a.n) (fun _=>())
  (fun ts _ ex s=>ex= .exit 0∧OutT [21,22,23,24,25,26,27,28,29] ts [] (fun h=>h[0]? =some (.box (pbox (t5::t6::ts') 0))∧h[1]? =some (.box [.slice [] .full,.int .i64 0,.str [],.int .i64 0,.slice [] .full,.slice [] .full,.slice [] .full])∧∃tw,h[2]? =some (.box [.slice [] .full,.int .i64 0,.str [],.int .i64 0,.slice [] .full,.slice [] .full,.slice (ss.map PState.cells) tw])) s) ⟨n,[s0],.slice [s0.cells] .full,ts0⟩ ⟨rfl,rfl,rfl,.inl rfl,hT0,by simp only[wb,wc];omega,h1⟩ (by simp only[AtT,ats]) (by
   rintro⟨n,acc,v,ts⟩ j G dd ⟨q0,q1,q2,gv,hTs,hln,hp⟩
   clear hl;subst hb
   simp only at q0 q1 q2 gv hTs hln hp ⊢
   obtain⟨tk,hv⟩:=gv.val
   subst hv
   obtain⟨tt,rt,rfl⟩:=hTs.ne
   cases hh:hasS [115,116,97,116,101] (tt::rt)
   ·rw[hh]at hp
    simp only[w6,if_false]at hp
    cases hp
    have cb:=qcf (c:=C) (b:=0) (H:=G) (rest:=[.str [115,116,97,116,101]]) rfl q0 (qaa _ _) (qhx [115,116,97,116,101] (by decide) _ _ 0 hh) rfl
    simp only[Z3,Nat.reduceAdd,Nat.reduceBEq,Int.reduceBEq,Int.reduceBNe,Int.reduceLT,Int.reduceLE,effs,qfo,cb]
    exact .inr ⟨_,_,rfl,by simp,rfl,by simp only[OutT,AtT,ats],q0,q1,tk,q2⟩
   ·rw[hh]at hp
    simp only[if_true,we]at hp
    cases n with
    |zero=>cases hp
    |succ n=>
     obtain⟨_,_,hc,hTr,_,_⟩:=hTs.hasS hh
     cases hc
     simp only[qcg]at hp
     obtain⟨l2,ts2',hp1,hp2⟩:=PR.bind_ok hp
     obtain⟨s,tsq,hq1,k1⟩:=PR.bind_ok hp1
     obtain⟨hTq,gq⟩:=qj1 hR hLen hTr hq1
     have hlt:=qo1 hLen hq1
     obtain⟨E1,G1,c1,s1⟩:=stp q0 (qem [115,116,97,116,101] tt rt 0 hh) rfl (qaa _ _) (qaa _ _) rfl
     obtain⟨E2,G2,c2,s2⟩:=stp s1.p0 gq rfl (qaa _ _) (qaa _ _) (by simp only[refs];exact s.norefs)
     have b1:=s1.box 2 _ (by decide) q2
     have b2:=s2.box 2 _ (by decide) b1
     have z2:=s2.box 1 _ (by decide) (s1.box 1 _ (by decide) q1)
     have fr:=s2.free (by decide) b1
     obtain⟨tk2,E3,ha,gr⟩:=grw ql6 6 (fs:=[s.cells]) b2 (s2.grow _ _ _ (s1.grow _ _ _ gv)) (by simp only[wm,wb,wc]at hln ⊢;unfold qac;omega) (by intro c hc;obtain⟨x,_,rfl⟩:=wz.1 hc;exact x.len) (by intro c hc;simp only[ww,wk,or_false]at hc;subst hc;exact s.len) (by simp)
     have o1:=s1.of
     have o2:=s2.of
     have o3:=gr.at1
     have d1:=qfq b1
     have d2:decide (G1.length≤G2.length)=true:=decide_eq_true (by rw[s2.len];exact wv _)
     have d3:decide (G1.length≤(E3.of G2).length)=true:=decide_eq_true (by rw[←s2.len];exact gr.len)
     simp only[Z3,Nat.reduceAdd,Nat.reduceBEq,Int.reduceBEq,Int.reduceBNe,Int.reduceLT,Int.reduceLE,effs,qfo,c1,o1,b1,d1,c2,o2,qit,ha,o3,d2,d3]
     rw[qcr]
     ·refine .inl ⟨⟨n,acc++[s],.slice (acc.map PState.cells++[s.cells]) tk2,tsq⟩,_,rfl,⟨gr.box 0 _ (by decide) s2.p0,gr.box 1 _ (by decide) z2,gr.at2,?_,hTq,?_,?_⟩,by simp only[AtT,ats],by simp only[];omega,trivial⟩
      ·rw[wh];exact gr.grow
      ·simp only[wi,wb,wc]at hln hlt ⊢;omega
      ·split at k1
       ·rename_i hh3
        rw[if_pos hh3]
        obtain⟨l3,ts3,h3,h2⟩:=PR.bind_ok k1
        cases h2
        cases hp2
        rw[h3]
        simp[PR.bind]
       ·rename_i hh3
        rw[if_neg hh3]
        cases k1
        cases hp2
        rfl
     ·kernel_rfl
     ·simp only[qaj,qbx,qae,qcp,fr,w8,waa,w9,wo,wq])
 obtain⟨j,H,dd,hI,rfl⟩:=h2.elim
 clear hl
 have i0:=hI.1
 have i1:=hI.2.1
 obtain⟨tw,i2⟩:=hI.2.2
 clear hI h2
 obtain⟨E4,H4,d1,s4⟩:=stp i0 (want2_c [101,110,100] [59] t5 t6 ts' 0 (by assumption) h3) rfl (qaa _ _) (qaa _ _) rfl
 have j1:=s4.box 1 _ (by decide) i1
 have j2:=s4.box 2 _ (by decide) i2
 have o4:=s4.of
 simp only[Z3,Nat.reduceAdd,Nat.reduceBEq,Int.reduceBEq,Int.reduceBNe,Int.reduceLT,Int.reduceLE,effs,qfo,d1,o4,j1,j2]
 have l1:=(wd.1 j1).1
 have hb0:∀y,(H4.set 1 y)[0]? =some (.box (pbox ts' 0)):=fun y=>by rw[wg (by decide)];exact s4.p0
 exact fin_gb (T:=65) (k:=2) (b:=1) (k2:=3) qib qhq (ts:=ts') (d:=0) (.inl rfl) rfl (wf l1) rfl rfl rfl rfl (hb0 _) (qoz (hb0 _))
end Go.Ab
namespace Go.Ab
open Go Go.Ab.Tab
theorem enum_c {m:Nat} {ts ts':List PTok} {x:PEnum} (hT:TsOk ts) (h:qk1 m ts= .ok x ts'):
 TsOk ts'∧qbi C 77 [.ptr 0 0] [.box (pbox ts 0)] (.agg x.cells) [.box (pbox ts' 0)]:=by
 unfold qk1 at h
 obtain⟨t,r,rfl,hs,k1⟩:=qbz h
 have hTr:=hT.tail (by rw[hs];decide)
 obtain⟨w1,k2⟩:=qa5 k1
 obtain⟨t1,r1,rfl,hT1,_,_⟩:=hTr.hasS w1
 rw[we]at k2
 obtain⟨l,ts1,h1,k3⟩:=PR.bind_ok k2
 obtain⟨hTs1,g1⟩:=qut (by decide) 0 (fun t r hs=>qfp t r 0 hs) [124] (by decide) hT1 h1
 obtain⟨w2,k4⟩:=qa5 k3
 obtain⟨t2,r2,rfl,hT2,_,_⟩:=hTs1.hasS w2
 cases k4
 refine⟨hT2,?_⟩
 obtain⟨E1,a1,a2⟩:=met (qdy t (t1::r1) 0 hs) rfl (qaa _ _) (qaa _ _) rfl
 obtain⟨E2,b1,b2⟩:=qbr _ t1 r1 0 w1
 obtain⟨E3,c1,c2⟩:=met4 g1 rfl (qaa _ _) (qaa _ _) rfl
 obtain⟨E4,d1,d2⟩:=qbr _ t2 r2 0 w2
 refine qa6 rfl Tryz.func77 rfl (by kernel_rfl) (m:=18) rfl ?_;simp only[Z3,simprocAttr,Tryz.f77,fx_77,effs,a1,a2,b1,b2,c1,c2,d1,d2]
 exact qrq (T:=67) (k:=2) (b:=1) qt5 qrb (ts:=r2) (d:=0) (.inl rfl) rfl rfl rfl rfl rfl rfl rfl
theorem q2b {m:Nat} {ts ts':List PTok} {x:PEnum} (h:qk1 m ts= .ok x ts'):ts'.length<ts.length:=by
 unfold qk1 at h
 obtain⟨t,r,rfl,_,h⟩:=qbz h
 obtain⟨r1,h,h1⟩:=qc5 h
 obtain⟨l,t1,h2,h⟩:=PR.bind_ok h
 have:=qtg _ _ _ _ h2
 obtain⟨r3,h,h3⟩:=qc5 h
 cases h
 simp only[wb]
 omega
theorem qru {R:Rd} (hLen:LenR R) {m:Nat}:∀(n:Nat) (ts ts':List PTok) (l:List PState),qcg R m n ts= .ok l ts'→ts'.length<ts.length
 |0,_,_,_,h=>by cases h
 |n+1,ts,ts',l,h=>by
  simp only[qcg]at h
  obtain⟨s,t1,h1,h2⟩:=PR.bind_ok h
  have:=qo1 hLen h1
  split at h2
  ·obtain⟨l1,t2,h3,h4⟩:=PR.bind_ok h2
   cases h4
   have:=qru hLen n _ _ _ h3
   rw[wa]at this
   omega
  ·cases h2;exact this
theorem qp9 {R:Rd} (hR:HypE R) (hLen:LenR R) {m n:Nat} {ts ts':List PTok} {l:List PItem} (hT:TsOk ts) (h:qdj R m (n+1) ts= .ok l ts'):
 (l=[]∧ts'=ts∧qbi C 136 [.ptr 0 0] [.box (pbox ts 0)] (.tuple [.agg pZero.cells,.bool false]) [.box (pbox ts 0)])∨
 ∃x l1 t1,l=x::l1∧qdj R m n t1= .ok l1 ts'∧TsOk t1∧t1.length<ts.length∧qbi C 136 [.ptr 0 0] [.box (pbox ts 0)] (.tuple [.agg x.cells,.bool true]) [.box (pbox t1 0)]:=by
 simp only[qdj]at h
 split at h
 ·rename_i hb
  obtain⟨q,t1,h1,h2⟩:=PR.bind_ok h
  obtain⟨l1,t2,h3,h4⟩:=PR.bind_ok h2
  cases h4
  exact .inr ⟨_,l1,t1,rfl,h3,(qrs hR hT h1).1,qp8 hLen h1,item_eq hR hT hb h1⟩
 ·rename_i hb
  have hb':qdi ts=false:=wt.2 hb
  split at h
  ·rename_i ha
   obtain⟨t,r,rfl,hTr,_,_⟩:=hT.hasS ha
   obtain⟨w1,k1⟩:=qa5 h
   obtain⟨ss,ts1,h1,k2⟩:=PR.bind_ok k1
   obtain⟨w2,k3⟩:=qa5 k2
   obtain⟨w3,k4⟩:=qa5 k3
   obtain⟨l1,t2,h3,h4⟩:=PR.bind_ok k4
   cases h4
   obtain⟨hT',g⟩:=qzw hR hLen (n:=m) hT hb' ha w1 h1 w2 w3 rfl
   have hlt:=qru hLen _ _ _ _ h1
   refine .inr ⟨_,l1,_,rfl,h3,hT',?_,g⟩
   simp only[wa,wb]at hlt ⊢
   omega
  ·rename_i ha
   cases h
   obtain⟨t,r,rfl⟩:=hT.ne
   exact .inl ⟨rfl,rfl,item_no hb' (wt.2 ha)⟩
theorem qmn {R:Rd} (hR:HypE R) (hLen:LenR R) {m:Nat}:∀(n:Nat) (ts ts':List PTok) (l:List PItem),TsOk ts→qdj R m n ts= .ok l ts'→TsOk ts'∧ts'.length≤ts.length
 |0,_,_,_,_,h=>by cases h
 |n+1,ts,ts',l,hT,h=>by
  rcases qp9 hR hLen hT h with⟨_,rfl,_⟩|⟨x,l1,t1,_,h1,h2,h3,_⟩
  ·exact⟨hT,wv _⟩
  ·obtain⟨h4,h5⟩:=qmn hR hLen n t1 ts' l1 h2 h1
   exact⟨h4,by omega⟩
structure NdSt where
 n:Nat
 acc:List PItem
 v:AVal
 ts:List PTok
end Go.Ab
namespace Go.Ab
open Go Go.Ab.Tab
theorem node_nd {R:Rd} (hR:HypE R) (hLen:LenR R) {m:Nat} {ts ts':List PTok} {x:PNode} (hT:TsOk ts) (h:qij m R ts= .ok x ts'):
 TsOk ts'∧qbi C 79 [.ptr 0 0] [.box (pbox ts 0)] (.agg x.cells) [.box (pbox ts' 0)]:=by
 unfold qij at h
 obtain⟨t,r,rfl,hs,k1⟩:=qbz h
 have hTr:=hT.tail (by rw[hs];decide)
 obtain⟨fs,ts1,hf,k2⟩:=PR.bind_ok k1
 obtain⟨t0,r0,rfl⟩:=hTr.ne
 have hF:TsOk ts1:=by
  split at hf
  ·exact(qec (d:=0) hTr hf).1
  ·cases hf;exact hTr
 obtain⟨is,ts2,hi,k3⟩:=PR.bind_ok k2
 obtain⟨hI,gi⟩:=qec (d:=0) hF hi
 obtain⟨w1,k4⟩:=qa5 k3
 obtain⟨t1,r1,rfl,hT1,_,_⟩:=hI.hasS w1
 rw[we]at k4
 obtain⟨os,ts3,ho,k5⟩:=PR.bind_ok k4
 obtain⟨hO,go⟩:=qec (d:=0) hT1 ho
 obtain⟨w2,k6⟩:=qa5 k5
 obtain⟨t2,r2,rfl,hT2,_,_⟩:=hO.hasS w2
 rw[we]at k6
 obtain⟨its,ts4,hl4,k7⟩:=PR.bind_ok k6
 obtain⟨hT4,hle4⟩:=qmn hR hLen _ _ _ _ hT2 hl4
 obtain⟨w3,k8⟩:=qa5 k7
 obtain⟨t3,r3,rfl,hT3,_,_⟩:=hT4.hasS w3
 cases k8
 refine⟨hT3,?_⟩
 clear k1 k2 k3 k4 k5 k6 k7 h
 obtain⟨E1,a1,a2⟩:=met (qdy t (t0::r0) 0 hs) rfl (qaa _ _) (qaa _ _) rfl
 obtain⟨E2,b1,b2⟩:=met gi rfl (qaa _ _) (qaa _ _) rfl
 obtain⟨E3,c1,c2⟩:=qbr _ t1 r1 0 w1
 obtain⟨E4,d1,d2⟩:=met go rfl (qaa _ _) (qaa _ _) rfl
 obtain⟨E5,e1,e2⟩:=qbr _ t2 r2 0 w2
 have hle:=hT2.le
 by_cases hp:hasS [91] (t0::r0)=true
 ·rw[if_pos hp]at hf
  obtain⟨_,gf⟩:=qec (d:=0) hTr hf
  obtain⟨E0,z1,z2⟩:=met gf rfl (qaa _ _) (qaa _ _) rfl
  have s0:=qg2 hp
  refine qa6 rfl Tryz.func79 rfl (by kernel_rfl) (m:=43) rfl ?_;simp only[Z3,simprocAttr,Tryz.f79,qc0,effs,a1,a2,qbb,s0,z1,z2,b1,b2,c1,c2,d1,d2,e1,e2]
  generalize hb:qam PP cmp0 C lpC _=f;generalize hl:lpC f _=r
  obtain⟨ex,s',rfl,rfl,h2⟩:=qch (α:=NdSt) hl [4,5,27,28,29,30,31,32,33,34,35,36,37,38,39] (fun _=>[]) (fun a h=>h[0]? =some (.box (pbox a.ts 0))∧h[1]? =some (.box [.str [],.slice [] .full,.slice [] .full,.slice [] .full,.slice [] .full])∧h[2]? =some (.box [.str t.text,qag fs,qag is,qag os,a.v])∧Grow2 h a.v (a.acc.map PItem.cells) 65∧TsOk a.ts∧a.acc.length+a.ts.length≤65538∧(qdj R m a.n a.ts).bind (fun l2 ts2=> .ok (a.acc++l2) ts2)= .ok its (t3::r3)) (fun a=>a.n) (fun _=>())
   (fun ts _ ex s=>ex= .exit 0∧OutT [4,5,27,28,29,30,31,32,33,34,35,36,37,38,39] ts [] (fun h=>h[0]? =some (.box (pbox (t3::r3) 0))∧h[1]? =some (.box [.str [],.slice [] .full,.slice [] .full,.slice [] .full,.slice [] .full])∧∃tq,h[2]? =some (.box [.str t.text,qag fs,qag is,qag os,.slice (its.map PItem.cells) tq])) s) ⟨m,[],.slice [] .full,r2⟩ ⟨rfl,rfl,rfl,.inl rfl,hT2,by simp only[wc];omega,by rw[hl4];rfl⟩ (by simp only[AtT,ats]) (by
    rintro⟨n,acc,v,ts⟩ j G dd ⟨q0,q1,q2,gv,hTs,hln,hp⟩
    clear hl;subst hb
    simp only at q0 q1 q2 gv hTs hln hp ⊢
    obtain⟨tk,hv⟩:=gv.val
    subst hv
    cases n with
    |zero=>cases hp
    |succ n=>
     obtain⟨l2,ts2',hp1,hp2⟩:=PR.bind_ok hp
     have sx:∀(x:PItem) (a b c d e f g:AVal),qar [a,b,c,d,e,f,g] 0 x.cells=some x.cells:=fun x _ _ _ _ _ _ _=>qb7 (by rw[x.len];rfl)
     rcases qp9 hR hLen hTs hp1 with⟨rfl,rfl,g⟩|⟨x,l1,t1',rfl,hp3,hT',hlt,g⟩
     ·cases hp2
      obtain⟨E1,G1,c1,s1⟩:=stp q0 g rfl (qaa _ _) (qaa _ _) rfl
      have o1:=s1.of
      simp only[Z3,simprocAttr,effs,qc0,c1,o1,sx,PItem.ones,PItem.len]
      have hb3:∀(k:Nat) (cs:List AVal),G1[k]? =some (Blk.box cs)→(G1++[Blk.box pZero.cells])[k]? =some (Blk.box cs):=fun k cs h=>Boxes.app _ _ _ _ h
      exact .inr ⟨_,_,rfl,by simp,rfl,by simp only[OutT,AtT,ats],hb3 _ _ s1.p0,hb3 _ _ (s1.box 1 _ (by decide) q1),tk,hb3 _ _ (s1.box 2 _ (by decide) q2)⟩
     ·cases hp2
      obtain⟨E1,G1,c1,s1⟩:=stp q0 g rfl (qaa _ _) (qaa _ _) (by simp only[refs,qad];rw[x.norefs];rfl)
      have o1:=s1.of
      obtain⟨G2,hG2⟩:∃G2,G2=G1++[Blk.box x.cells]:=⟨_,rfl⟩
      have hb3:∀(k:Nat) (cs:List AVal),G1[k]? =some (Blk.box cs)→G2[k]? =some (Blk.box cs):=fun k cs h=>by rw[hG2];exact Boxes.app _ _ _ _ h
      have he3:G2[G1.length]? =some (.box x.cells):=by rw[hG2];simp
      have b2:=hb3 _ _ (s1.box 2 _ (by decide) q2)
      obtain⟨tk2,E3,ha,gr⟩:=grw qi4 4 (fs:=[x.cells]) b2 (hG2▸(s1.grow _ _ _ gv).box [Blk.box x.cells]) (by simp only[wm,wb,wc];unfold qac;omega) (by intro c hc;obtain⟨x,_,rfl⟩:=wz.1 hc;exact x.len) (by intro c hc;simp only[ww,wk,or_false]at hc;subst hc;exact x.len) (by simp)
      have o3:=gr.at1
      simp only[Z3,simprocAttr,effs,qc0,c1,o1,sx,PItem.ones,PItem.len,PItem.take,←hG2,b2,he3,qjy,ha,o3]
      refine .inl ⟨⟨n,acc++[x],.slice (acc.map PItem.cells++[x.cells]) tk2,t1'⟩,_,rfl,⟨gr.box 0 _ (by decide) (hb3 _ _ s1.p0),gr.box 1 _ (by decide) (hb3 _ _ (s1.box 1 _ (by decide) q1)),gr.at2,?_,hT',?_,?_⟩,by simp only[AtT,ats],by simp only[];omega,trivial⟩
      ·rw[wh];exact gr.grow
      ·simp only[wi,wb,wc]at hln ⊢;omega
      ·simp only[hp3,PR.bind,wu,wj])
  obtain⟨j,H,dd,hI,rfl⟩:=h2.elim
  clear hl
  have i0:=hI.1
  have i1:=hI.2.1
  obtain⟨tw,i2⟩:=hI.2.2
  clear hI h2
  obtain⟨E6,H4,u1,s4⟩:=stp i0 (qhg [101,110,100] t3 r3 0 w3) rfl (qaa _ _) (qaa _ _) rfl
  have j1:=s4.box 1 _ (by decide) i1
  have j2:=s4.box 2 _ (by decide) i2
  have o4:=s4.of
  simp only[Z3,simprocAttr,effs,qc0,u1,o4,j1,j2]
  have l1:=(wd.1 j1).1
  have hb0:∀y,(H4.set 1 y)[0]? =some (.box (pbox r3 0)):=fun y=>by rw[wg (by decide)];exact s4.p0
  exact qrq (T:=60) (k:=2) (b:=1) qia qho (ts:=r3) (d:=0) (.inl rfl) rfl (wf l1) rfl rfl rfl (hb0 _) (qoz (hb0 _))
 ·rw[if_neg hp]at hf
  cases hf
  have s0:=qg3 (s:=[91]) (by decide) (wt.2 hp)
  refine qa6 rfl Tryz.func79 rfl (by kernel_rfl) (m:=43) rfl ?_;simp only[Z3,simprocAttr,Tryz.f79,qc0,effs,a1,a2,qbb,s0,b1,b2,c1,c2,d1,d2,e1,e2]
  generalize hb:qam PP cmp0 C lpC _=f;generalize hl:lpC f _=r
  obtain⟨ex,s',rfl,rfl,h2⟩:=qch (α:=NdSt) hl [4,5,27,28,29,30,31,32,33,34,35,36,37,38,39] (fun _=>[]) (fun a h=>h[0]? =some (.box (pbox a.ts 0))∧h[1]? =some (.box [.str [],.slice [] .full,.slice [] .full,.slice [] .full,.slice [] .full])∧h[2]? =some (.box [.str t.text,.slice [] .full,qag is,qag os,a.v])∧Grow2 h a.v (a.acc.map PItem.cells) 65∧TsOk a.ts∧a.acc.length+a.ts.length≤65538∧(qdj R m a.n a.ts).bind (fun l2 ts2=> .ok (a.acc++l2) ts2)= .ok its (t3::r3)) (fun a=>a.n) (fun _=>())
   (fun ts _ ex s=>ex= .exit 0∧OutT [4,5,27,28,29,30,31,32,33,34,35,36,37,38,39] ts [] (fun h=>h[0]? =some (.box (pbox (t3::r3) 0))∧h[1]? =some (.box [.str [],.slice [] .full,.slice [] .full,.slice [] .full,.slice [] .full])∧∃tq,h[2]? =some (.box [.str t.text,.slice [] .full,qag is,qag os,.slice (its.map PItem.cells) tq])) s) ⟨m,[],.slice [] .full,r2⟩ ⟨rfl,rfl,rfl,.inl rfl,hT2,by simp only[wc];omega,by rw[hl4];rfl⟩ (by simp only[AtT,ats]) (by
    rintro⟨n,acc,v,ts⟩ j G dd ⟨q0,q1,q2,gv,hTs,hln,hp⟩
    clear hl;subst hb
    simp only at q0 q1 q2 gv hTs hln hp ⊢
    obtain⟨tk,hv⟩:=gv.val
    subst hv
    cases n with
    |zero=>cases hp
    |succ n=>
     obtain⟨l2,ts2',hp1,hp2⟩:=PR.bind_ok hp
     have sx:∀(x:PItem) (a b c d e f g:AVal),qar [a,b,c,d,e,f,g] 0 x.cells=some x.cells:=fun x _ _ _ _ _ _ _=>qb7 (by rw[x.len];rfl)
     rcases qp9 hR hLen hTs hp1 with⟨rfl,rfl,g⟩|⟨x,l1,t1',rfl,hp3,hT',hlt,g⟩
     ·cases hp2
      obtain⟨E1,G1,c1,s1⟩:=stp q0 g rfl (qaa _ _) (qaa _ _) rfl
      have o1:=s1.of
      simp only[Z3,simprocAttr,effs,qc0,c1,o1,sx,PItem.ones,PItem.len]
      have hb3:∀(k:Nat) (cs:List AVal),G1[k]? =some (Blk.box cs)→(G1++[Blk.box pZero.cells])[k]? =some (Blk.box cs):=fun k cs h=>Boxes.app _ _ _ _ h
      exact .inr ⟨_,_,rfl,by simp,rfl,by simp only[OutT,AtT,ats],hb3 _ _ s1.p0,hb3 _ _ (s1.box 1 _ (by decide) q1),tk,hb3 _ _ (s1.box 2 _ (by decide) q2)⟩
     ·cases hp2
      obtain⟨E1,G1,c1,s1⟩:=stp q0 g rfl (qaa _ _) (qaa _ _) (by simp only[refs,qad];rw[x.norefs];rfl)
      have o1:=s1.of
      obtain⟨G2,hG2⟩:∃G2,G2=G1++[Blk.box x.cells]:=⟨_,rfl⟩
      have hb3:∀(k:Nat) (cs:List AVal),G1[k]? =some (Blk.box cs)→G2[k]? =some (Blk.box cs):=fun k cs h=>by rw[hG2];exact Boxes.app _ _ _ _ h
      have he3:G2[G1.length]? =some (.box x.cells):=by rw[hG2];simp
      have b2:=hb3 _ _ (s1.box 2 _ (by decide) q2)
      obtain⟨tk2,E3,ha,gr⟩:=grw qi4 4 (fs:=[x.cells]) b2 (hG2▸(s1.grow _ _ _ gv).box [Blk.box x.cells]) (by simp only[wm,wb,wc];unfold qac;omega) (by intro c hc;obtain⟨x,_,rfl⟩:=wz.1 hc;exact x.len) (by intro c hc;simp only[ww,wk,or_false]at hc;subst hc;exact x.len) (by simp)
      have o3:=gr.at1
      simp only[Z3,simprocAttr,effs,qc0,c1,o1,sx,PItem.ones,PItem.len,PItem.take,←hG2,b2,he3,qjy,ha,o3]
      refine .inl ⟨⟨n,acc++[x],.slice (acc.map PItem.cells++[x.cells]) tk2,t1'⟩,_,rfl,⟨gr.box 0 _ (by decide) (hb3 _ _ s1.p0),gr.box 1 _ (by decide) (hb3 _ _ (s1.box 1 _ (by decide) q1)),gr.at2,?_,hT',?_,?_⟩,by simp only[AtT,ats],by simp only[];omega,trivial⟩
      ·rw[wh];exact gr.grow
      ·simp only[wi,wb,wc]at hln ⊢;omega
      ·simp only[hp3,PR.bind,wu,wj])
  obtain⟨j,H,dd,hI,rfl⟩:=h2.elim
  clear hl
  have i0:=hI.1
  have i1:=hI.2.1
  obtain⟨tw,i2⟩:=hI.2.2
  clear hI h2
  obtain⟨E6,H4,u1,s4⟩:=stp i0 (qhg [101,110,100] t3 r3 0 w3) rfl (qaa _ _) (qaa _ _) rfl
  have j1:=s4.box 1 _ (by decide) i1
  have j2:=s4.box 2 _ (by decide) i2
  have o4:=s4.of
  simp only[Z3,simprocAttr,effs,qc0,u1,o4,j1,j2]
  have l1:=(wd.1 j1).1
  have hb0:∀y,(H4.set 1 y)[0]? =some (.box (pbox r3 0)):=fun y=>by rw[wg (by decide)];exact s4.p0
  exact qrq (T:=60) (k:=2) (b:=1) qia qho (ts:=r3) (d:=0) (.inl rfl) rfl (wf l1) rfl rfl rfl (hb0 _) (qoz (hb0 _))
end Go.Ab
