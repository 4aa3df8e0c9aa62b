/- What is told of an expression that may be is read as that expression. -/
import Derived.Test.YtngklkmeknmloaaGreatDoorAbBox
import Derived.Test.YtngklkmeknmloaaGreatDoorAbSize
import Derived.Test.YtngklkmeknmloaaGreatDoorAbTypes
import Derived.Test.YtngklkmeknmloaaGreatDoorAbPSpec
import Derived.Test.YtngklkmeknmloaaGreatDoorAbTok
set_option linter.unusedSimpArgs false
set_option linter.unusedVariables false
set_option maxRecDepth 100000
set_option maxHeartbeats 4000000
open Go.Proofs
open List renaming length_append→wa,length_cons→wb,length_nil→wc,getElem?_eq_some_iff→wd,append_assoc→we,nil_append→wf,cons_append→wg,getElem?_append_left→wi,take_of_length_le→wj,getElem_mem→wk,length_map→wm,getD_eq_getElem?_getD→wo,getElem?_take_of_lt→wq,getElem?_eq_none→wv,map_cons→ww,flatMap_append→wz,idxOf_cons→w7,mem_filter→w8,map_nil→w9
open Int renaming natCast_zero→wh
open Nat renaming le_refl→wt,zero_le→wu
open Option renaming getD_some→w6
namespace Go.Ab
def AtT (junk:List Nat) (ts0:List AVal) (w:List (Nat×AVal)) (ts:List AVal):Prop:=ts=upd (w++junk.map fun k=>(k,ts.getD k .undef)) ts0
theorem qch {α R:Type} {f:St→Option (AEx×St)} {ts0:List AVal} {H0:qab} {d0:List Nat} {r:Option (AEx×St)} (hl:lpC f ⟨ts0,H0,d0⟩=r)
 (junk:List Nat) (w:α→List (Nat×AVal)) (I:α→qab→Prop) (μ:α→Nat) (den:α→R) (Post:List AVal→R→AEx→St→Prop) (a0:α) (h0:I a0 H0)
 (hw:AtT junk ts0 (w a0) ts0)
 (hs:∀a (j:Nat→AVal) h d,I a h→
  (∃a' s',f ⟨upd (w a++junk.map fun k=>(k,j k)) ts0,h,d⟩=some (.normal,s')∧I a' s'.heap∧AtT junk ts0 (w a') s'.tmps∧μ a'<μ a∧den a'=den a)∨
  (∃ex s',f ⟨upd (w a++junk.map fun k=>(k,j k)) ts0,h,d⟩=some (ex,s')∧(∀s1:St,(ex,s')≠(AEx.normal,s1))∧Post ts0 (den a) ex s')):
 ∃ex s',r=some (ex,s')∧Post ts0 (den a0) ex s':=by
 subst hl
 refine qtt μ den (fun a s=>I a s.heap∧AtT junk ts0 (w a) s.tmps) (Post ts0) ?_ (μ a0) a0 _ (wt _) ⟨h0,hw⟩
 rintro a ⟨ts,h,d⟩ ⟨hi,ha⟩
 have ha':ts=upd (w a++junk.map fun k=>(k,ts.getD k .undef)) ts0:=ha
 rw[ha']
 rcases hs a (fun k=>ts.getD k .undef) h d hi with⟨a',s',h1,h2,h3,h4,h5⟩|h
 ·exact .inl ⟨a',s',h1,⟨h2,h3⟩,h4,h5⟩
 ·exact .inr h
def OutT (junk:List Nat) (ts0:List AVal) (w:List (Nat×AVal)) (I:qab→Prop) (s:St):Prop:=AtT junk ts0 w s.tmps∧I s.heap
theorem OutT.elim {junk:List Nat} {ts0:List AVal} {w:List (Nat×AVal)} {I:qab→Prop} {s:St} (h:OutT junk ts0 w I s):
 ∃(j:Nat→AVal) (H:qab) (d:List Nat),I H∧s=⟨upd (w++junk.map fun k=>(k,j k)) ts0,H,d⟩:=by
 obtain⟨ts,h',d⟩:=s
 refine⟨fun k=>ts.getD k .undef,h',d,h.2,?_⟩
 have:=h.1
 unfold AtT at this
 simp only at this
 rw[←this]
def Grow (h:qab) (v:AVal) (es:List (List AVal)) (T:TypeId):Prop:=(es=[]∧v= .slice [] .full)∨∃t,v= .slice es (.own t)∧h[t]? =some (.tok es.length T)
def Boxes (h h':qab):Prop:=∀(k:Nat) (cs:List AVal),h[k]? =some (.box cs)→h'[k]? =some (.box cs)
theorem Boxes.refl (h:qab):Boxes h h:=fun _ _ e=>e
theorem Boxes.trans {a b c:qab} (h:Boxes a b) (k:Boxes b c):Boxes a c:=fun i cs e=>k i cs (h i cs e)
theorem Boxes.app (h l:qab):Boxes h (h++l):=fun k cs e=>by
 rw[wi (wd.1 e).1];exact e
theorem Grow.app {h:qab} {v:AVal} {es:List (List AVal)} {T:TypeId} (g:Grow h v es T) (l:qab):Grow (h++l) v es T:=by
 rcases g with g|⟨t,hv,ht⟩
 ·exact .inl g
 ·exact .inr ⟨t,hv,by rw[wi (wd.1 ht).1];exact ht⟩
theorem qbt {sz:Nat} {es:List (List AVal)} (h:∀c∈es,c.length=sz):qfa sz es=true:=by
 cases es with
 |nil=>rfl
 |cons c r=>simp[qfa,h c (by simp)]
theorem q1t {P:Program} {t e sz:Nat} (ok:qfg P t e sz) {h:qab} {v:AVal} {es fs:List (List AVal)} (g:Grow h v es e) (hl:es.length+fs.length≤qac) (h1:∀c∈es,c.length=sz) (h2:∀c∈fs,c.length=sz) (hne:¬fs=[]):
 ∃v' f,qb1 P h t v (.slice fs .full)=some (v',f)∧Grow (f.of h) v' (es++fs) e∧Boxes h (f.of h):=by
 rcases g with⟨rfl,rfl⟩|⟨p,rfl,hp⟩
 ·refine⟨_,_,qcj h ok hl (qbt h1) (qbt h2) hne,.inr ⟨_,rfl,?_⟩,Boxes.app _ _⟩
  simp[Eff.of]
 ·refine⟨_,_,qcx h ok hl (qbt h1) (qbt h2) hne hp rfl,.inr ⟨_,rfl,?_⟩,?_⟩
  ·simp only[Eff.of]
   rw[List.getElem?_set_self (wd.1 hp).1]
   simp
  ·intro k cs hk
   simp only[Eff.of]
   by_cases hkp:p=k
   ·subst hkp;rw[hp]at hk;cases hk
   ·rw[List.getElem?_set_ne hkp];exact hk
end Go.Ab
namespace Go.Ab
def encS (l:List Str):List (List AVal):=l.map fun s=>[.str s]
theorem qj0 (l:List Str):(encS l).length=l.length:=by simp[encS]
theorem encS_app (l m:List Str):encS (l++m)=encS l++encS m:=by simp[encS]
theorem qvy (l:List Str):∀c∈encS l,c.length=1:=by
 intro c hc;obtain⟨x,_,rfl⟩:=List.mem_map.1 hc;rfl
def PrAt (T:TypeId) (h:qab) (b:Nat) (ws:List Str):Option Nat→Prop
 |none=>ws=[]∧h[b]? =some (.box [.slice [] .full])
 |some t=>h[b]? =some (.box [.slice (encS ws) (.own t)])∧h[t]? =some (.tok ws.length T)
theorem PrAt.app {T:TypeId} {h:qab} {b:Nat} {ws:List Str} {tk:Option Nat} (p:PrAt T h b ws tk) (l:qab):PrAt T (h++l) b ws tk:=by
 cases tk with
 |none=>exact⟨p.1,by rw[wi (wd.1 p.2).1];exact p.2⟩
 |some t=>exact⟨by rw[wi (wd.1 p.1).1];exact p.1,by rw[wi (wd.1 p.2).1];exact p.2⟩
def Canon (T:TypeId) (h:qab) (ws:List Str):Option Nat→Prop
 |none=>ws=[]∧h=[.box [.slice [] .full]]
 |some t=>t=1∧h=[.box [.slice (encS ws) (.own 1)],.tok ws.length T]
def pOwn (T:TypeId) (ws:List Str):qab:=[.box [.slice (encS ws) (.own 1)],.tok ws.length T]
theorem Canon.at {T:TypeId} {h:qab} {ws:List Str} {tk:Option Nat} (c:Canon T h ws tk):PrAt T h 0 ws tk:=by
 cases tk with
 |none=>obtain⟨rfl,rfl⟩:=c;exact⟨rfl,rfl⟩
 |some t=>obtain⟨rfl,rfl⟩:=c;exact⟨rfl,rfl⟩
def Others (b:Nat) (h h':qab):Prop:=∀(k:Nat) (cs:List AVal),k≠b→h[k]? =some (.box cs)→h'[k]? =some (.box cs)
theorem Others.refl (b:Nat) (h:qab):Others b h h:=fun _ _ _ e=>e
theorem Others.app (b:Nat) (h l:qab):Others b h (h++l):=fun k cs _ e=>Boxes.app h l k cs e
def PrC (T:TypeId) (C:Call) (f:FuncId) (rest:List AVal) (out:List Str):Prop:=
 ∀(ws:List Str) (tk:Option Nat) (h:qab),Canon T h ws tk→ws.length+out.length≤qac→qbi C f (.ptr 0 0::rest) h (.tuple []) (pOwn T (ws++out))
def PrO (T:TypeId) (C:Call) (f:FuncId) (rest:List AVal) (out:List Str):Prop:=
 ∀(ws:List Str),ws.length+out.length≤qac→qbi C f (.ptr 0 0::rest) (pOwn T ws) (.tuple []) (pOwn T (ws++out))
theorem PrC.own {T:TypeId} {C:Call} {f:FuncId} {rest:List AVal} {out:List Str} (c:PrC T C f rest out):PrO T C f rest out:=fun ws hl=>c ws (some 1) (pOwn T ws) ⟨rfl,rfl⟩ hl
theorem qr1 (σ:Nat→Nat) (es:List (List AVal)) (t:Nat):renL σ [.slice es (.own t)]=[.slice es (.own (σ t))]:=rfl
theorem qa7 {T:TypeId} {C:Call} (hk:qa4 C) {f:FuncId} {rest:List AVal} {out:List Str} (c:PrO T C f rest out) (hr:qad rest=[]) {h:qab} {b:Nat} {ws:List Str} {t:Nat} (p:PrAt T h b ws (some t)) (hl:ws.length+out.length≤qac):
 ∃e:Eff,qai C h f (.ptr b 0::rest)=some (.ret (.tuple []) e)∧PrAt T (e.of h) b (ws++out) (some t)∧Others b h (e.of h)∧h.length≤(e.of h).length:=by
 have hra:qad (.ptr b 0::rest)=[b]:=by simp[qad,refs,hr]
 obtain⟨hb,ht⟩:=p
 have hne:t≠b:=by
  intro e;subst e;rw[hb]at ht;cases ht
 have hnb:(b==t)=false:=beq_false_of_ne (Ne.symm hne)
 have hlt:=(wd.1 hb).1
 have htt:=(wd.1 ht).1
 have g:=c ws hl
 have hidx:qbv h 256 (qad (.ptr b 0::rest)) []=[b,t]:=by rw[hra];simp[qbv,hb,ht,qad,refs,hne]
 have hok:qc2 h [b,t] (.ptr b 0::rest)=true:=by unfold qc2;simp[hra,hb,ht,qdq,qad,refs,hr]
 have hsub:subH h [b,t]=pOwn T ws:=by
  simp only[subH,ww,w9,wo,hb,ht,w6,renB,qr1,pOwn,w7,hnb,beq_self_eq_true,cond_true,cond_false]
  try rfl
 have hren:renL (fun x=>[b,t].idxOf x) (.ptr b 0::rest)= .ptr 0 0::rest:=by
  simp only[renL,ren,qbs hr,w7,beq_self_eq_true,cond_true]
 obtain⟨e,h1,h2⟩:=g
 rw[←hren,←hsub]at h1
 have hbk:=qju (qla (by simp[hne.symm]) hok).1 (hk _ _ _ _ h1).1
 rw[hsub]at hbk
 simp only[CR.eff]at hbk
 rw[h2]at hbk
 refine⟨qge h [b,t] e,?_,⟨?_,?_⟩,?_,hbk.len⟩
 ·unfold qai
  simp only[hidx]
  rw[if_pos hok,h1]
  rfl
 ·rw[hbk.inn 0 b rfl]
  rfl
 ·rw[hbk.inn 1 t rfl]
  rfl
 ·intro k cs hkb hh
  have hkt:k≠t:=by intro e;subst e;rw[ht]at hh;cases hh
  rw[hbk.out k (wd.1 hh).1 (by simp[hkb,hkt])]
  exact hh
theorem qdx {T:TypeId} {C:Call} (hk:qa4 C) {f:FuncId} {rest:List AVal} {out:List Str} (c:PrC T C f rest out) (hr:qad rest=[]) {h:qab} {b:Nat} {ws:List Str} {tk:Option Nat} (p:PrAt T h b ws tk) (hl:ws.length+out.length≤qac):
 ∃e:Eff,qai C h f (.ptr b 0::rest)=some (.ret (.tuple []) e)∧∃t,(∀t0,tk=some t0→t=t0)∧(tk=none→h.length≤t)∧PrAt T (e.of h) b (ws++out) (some t)∧Others b h (e.of h)∧h.length≤(e.of h).length:=by
 have hra:qad (.ptr b 0::rest)=[b]:=by simp[qad,refs,hr]
 cases tk with
 |none=>
  obtain⟨rfl,hb⟩:=p
  have hlt:=(wd.1 hb).1
  have g:=c [] none [.box [.slice [] .full]] ⟨rfl,rfl⟩ hl
  have hidx:qbv h 256 (qad (.ptr b 0::rest)) []=[b]:=by rw[hra];simp[qbv,hb,qad,refs]
  have hok:qc2 h [b] (.ptr b 0::rest)=true:=by unfold qc2;simp[hra,hb,qdq,qad,refs,hr]
  have hsub:subH h [b]=[.box [.slice [] .full]]:=by
   simp only[subH,ww,w9,wo,hb,w6,renB];rfl
  have hren:renL (fun x=>[b].idxOf x) (.ptr b 0::rest)= .ptr 0 0::rest:=by
   simp only[renL,ren,qbs hr];simp
  obtain⟨e,h1,h2⟩:=g
  rw[←hren,←hsub]at h1
  have hbk:=qju (qla (by simp) hok).1 (hk _ _ _ _ h1).1
  rw[hsub]at hbk
  simp only[CR.eff]at hbk
  rw[h2]at hbk
  refine⟨qge h [b] e,?_,h.length,fun t0 e0=>(by cases e0),fun _=>wt _,⟨?_,?_⟩,?_,hbk.len⟩
  ·unfold qai
   simp only[hidx]
   rw[if_pos hok,h1]
   rfl
  ·rw[hbk.inn 0 b rfl]
   rfl
  ·rw[hbk.new h.length (wt _)]
   simp[pOwn,renB]
  ·intro k cs hkb hh
   rw[hbk.out k (wd.1 hh).1 (by simpa using hkb)]
   exact hh
 |some t=>
  obtain⟨e,h1,h2,h3,h4⟩:=qa7 hk c.own hr p hl
  exact⟨e,h1,t,fun t0 e0=>Option.some.inj e0,fun e0=>(by cases e0),h2,h3,h4⟩
def finF (P:Program) (h0:qab) (rs:List ResultVar) (v:AVal) (h1:qab):Option (AEx×St)→Prop
 |some (.normal,s)|some (.ret,s)=>∃vs,resA P rs s=some vs∧(KeepH h0 s.heap s.dirty→(qbg h0.length (qb5 vs) s.heap s.dirty).1=v∧(qbg h0.length (qb5 vs) s.heap s.dirty).2.of h0=h1)
 |_=>False
theorem q0f {P:Program} {cmp:List TypeId} {ext:Ext} (hkeep:qa4 (evC P cmp ext)) {f:FuncId} {fn:Func} {c:Code} (hx:ext f=none) (hf:P.funcs[f]? =some fn) (hb:fn.body=some c) (hd:qct c=true) {a:List AVal} {h:qab} {m:Nat} (hm:fn.ntmps-a.length=m) {v:AVal} {h1:qab}
 (e:finF P h fn.results.toList v h1 (qam P cmp (evC P cmp ext) lpC c ⟨a++List.replicate m .undef,h,[]⟩)):qbi (evC P cmp ext) f a h v h1:=by
 subst hm
 have hc:=qst (cmp:=cmp) hx hf hb hd a h
 rw[←qio c _ hd]at e
 rw[←qio c _ hd]at hc
 cases hr:qa3 P cmp (evC P cmp ext) lpC c ⟨a++List.replicate (fn.ntmps-a.length) .undef,h,[]⟩with
 |none=>rw[hr]at e;exact e.elim
 |some x=>
  obtain⟨ex,s⟩:=x
  have hk:=(qd5 hkeep qnv _ _ _ hr).1
  rw[hr]at e hc
  cases ex with
  |normal=>
   obtain⟨vs,h2,h3⟩:=e
   obtain⟨h4,h5⟩:=h3 hk
   refine⟨_,?_,h5⟩
   rw[hc];simp only[fin,h2,h4]
  |ret=>
   obtain⟨vs,h2,h3⟩:=e
   obtain⟨h4,h5⟩:=h3 hk
   refine⟨_,?_,h5⟩
   rw[hc];simp only[fin,h2,h4]
  |exit=>exact e.elim
  |pan=>exact e.elim
theorem qdk {P:Program} {T:TypeId} {h0:qab} {ws out:List Str} {tk:Option Nat} (c:Canon T h0 ws tk) (hne:tk=none→out≠[]) {rs:List ResultVar} {s:St} {ex:AEx} (hex:ex= .ret∨ex= .normal) (hrs:rs=[])
 {t:Nat} (h1:∀t0,tk=some t0→t=t0) (h2:tk=none→h0.length≤t) (p:PrAt T s.heap 0 (ws++out) (some t)):finF P h0 rs (.tuple []) (pOwn T (ws++out)) (some (ex,s)):=by
 subst hrs
 have main:KeepH h0 s.heap s.dirty→(qbg h0.length (qb5 []) s.heap s.dirty).1= .tuple []∧(qbg h0.length (qb5 []) s.heap s.dirty).2.of h0=pOwn T (ws++out):=by
  intro hk
  cases tk with
  |some t0=>
   obtain rfl:=h1 t0 rfl
   obtain⟨rfl,rfl⟩:=c
   have hp1:=p.1
   have hp2:=p.2
   have hst:∀b,b<2→qih 2 s.heap b:=by
    intro b hb
    rcases b with _|_|b
    ·exact⟨_,hp1,fun mv=>by unfold qg5;rw[hp1];rfl⟩
    ·exact⟨_,hp2,fun mv=>by unfold qg5;rw[hp2]⟩
    ·omega
   have:=qo8 (n:=2) (v:=qb5 []) rfl hk rfl hst
   refine⟨this.1,?_⟩
   refine this.2.trans ?_
   apply List.ext_getElem?
   intro i
   rcases i with _|_|i
   ·rw[wq (by omega),hp1];rfl
   ·rw[wq (by omega),hp2];rfl
   ·rw[wv (by rw[List.length_take];omega),wv (by simp[pOwn])]
  |none=>
   obtain⟨rfl,rfl⟩:=c
   have hp1:=p.1
   have hp2:=p.2
   have ht:1≤t:=h2 rfl
   simp only[wf]at hp1 hp2 ⊢
   have h0d:0∈s.dirty:=by
    apply Classical.byContradiction
    intro hn
    have:=hk.2 0 (by simp) hn
    rw[hp1]at this
    cases out with
    |nil=>exact hne rfl rfl
    |cons o r=>simp[encS]at this
   have hd:qgf (s.dirty.filter (· <1))=[0]:=by
    have hm:0∈qgf (s.dirty.filter (· <1)):=qim.2 (w8.2 ⟨h0d,by simp⟩)
    have hall:∀x∈qgf (s.dirty.filter (· <1)),x=0:=by
     intro x hx
     have:=(w8.1 (qim.1 hx)).2
     simp only[decide_eq_true_eq]at this
     omega
    have hnd:=qu4 (s.dirty.filter (· <1))
    generalize qgf (s.dirty.filter (· <1))=l at hm hall hnd
    cases l with
    |nil=>cases hm
    |cons a r=>
     obtain rfl:=hall a (by simp)
     cases r with
     |nil=>rfl
     |cons b q=>
      obtain rfl:=hall b (by simp)
      simp at hnd
   have hlen:0<s.heap.length:=(wd.1 hp1).1
   obtain⟨x,hx⟩:∃x,s.heap.take 1=[x]:=by
    cases hh:s.heap with
    |nil=>rw[hh]at hlen;simp at hlen
    |cons x r=>exact⟨x,rfl⟩
   have hmv:qd0 1 s.heap [.slice (encS out) (.own t)] []=some ([.slice (encS out) (.own 1)],[t]):=by
    have hnt:¬t<1:=by omega
    simp only[qd0,if_neg hnt,hp2,qj0,List.contains_nil,Bool.not_false,Bool.and_true,decide_true,if_true,wf,wc,Nat.add_zero]
   have hlb:qf1 1 s.heap [0] (s.heap.take 1) []=some ([.box [.slice (encS out) (.own 1)]],[t]):=by
    simp only[qf1,qg5,hp1,hmv,hx,List.set_cons_zero]
   have hlow:lowA 1 (strip3 (qb5 []))=true:=rfl
   unfold qbg
   simp only[wb,wc,Nat.zero_add]at*
   rw[hd,if_pos hlow,hlb]
   refine⟨rfl,?_⟩
   simp only[Eff.of,List.filterMap_cons,hp2,List.filterMap_nil,pOwn]
   rfl
 rcases hex with rfl|rfl
 ·exact⟨[],rfl,main⟩
 ·exact⟨[],rfl,main⟩
def sepW (sign:Str):List (List Str)→List Str
 |[]=>[]
 |x::r=>x++r.flatMap fun y=>sign::y
theorem sepW_snoc (sign:Str) (l:List (List Str)) (x:List Str):sepW sign (l++[x])=if l=[]then x else sepW sign l++([sign]++x):=by
 cases l with
 |nil=>simp[sepW]
 |cons y r=>simp[sepW,wz,we]
theorem qov (sign:Str) (L:List (List Str)) (i:Nat) (x:List Str) (h:L[i]? =some x):sepW sign (L.take (i+1))=if i=0 then x else sepW sign (L.take i)++([sign]++x):=by
 have hlt:=(wd.1 h).1
 have hx:L[i]=x:=(wd.1 h).2
 rw[List.take_succ_eq_append_getElem hlt,sepW_snoc,hx]
 cases i with
 |zero=>simp
 |succ j=>
  have:¬L.take (j+1)=[]:=by
   cases L with
   |nil=>simp at hlt
   |cons a r=>simp
  rw[if_neg this,if_neg (by omega)]
theorem qrl (sign:Str) (L:List (List Str)) (i:Nat):(sepW sign (L.take i)).length≤(sepW sign L).length:=by
 cases L with
 |nil=>simp[sepW]
 |cons x r=>
  cases i with
  |zero=>simp[sepW]
  |succ j=>
   simp only[List.take_succ_cons,sepW,wa,Nat.add_le_add_iff_left]
   have:r.flatMap (fun y=>sign::y)=(r.take j).flatMap (fun y=>sign::y)++(r.drop j).flatMap (fun y=>sign::y):=by
    rw[←wz,List.take_append_drop]
   rw[this,wa]
   omega
end Go.Ab
namespace Go.Ab
open Go Go.Ab.Tab
theorem qdt {f:FuncId} {fn:Func} {c:Code} (hx:ext0 f=none) (hf:PP.funcs[f]? =some fn) (hb:fn.body=some c) (hd:qct c=true) {a:List AVal} {h:qab} {m:Nat} (hm:fn.ntmps-a.length=m) {v:AVal} {h1:qab}
 (e:finF PP h fn.results.toList v h1 (qam PP cmp0 C lpC c ⟨a++List.replicate m .undef,h,[]⟩)):qbi C f a h v h1:=q0f qaw hx hf hb hd hm e
abbrev PrW (f:FuncId) (rest:List AVal) (out:List Str):Prop:=PrC 9 C f rest out
abbrev PrV (f:FuncId) (rest:List AVal) (out:List Str):Prop:=PrO 9 C f rest out
theorem qcs (l:List Str) (hl:l≠[]):PrW 59 [.slice (encS l) .full] l:=by
 intro ws tk h c hb
 have hne:¬encS l=[]:=by cases l with
  |nil=>exact absurd rfl hl
  |cons=>simp[encS]
 have hc:=c
 cases tk with
 |some t=>
  obtain⟨rfl,rfl⟩:=c
  have hap:qb1 PP [.box [.slice (encS ws) (.own 1)],.tok ws.length 9] 34 (.slice (encS ws) (.own 1)) (.slice (encS l) .full)=some (.slice (encS (ws++l)) (.own 1),.heap [.box [.slice (encS ws) (.own 1)],.tok (ws++l).length 9] [1]):=by
   rw[qcx _ qgx (by rw[qj0,qj0];exact hb) (qbt (qvy _)) (qbt (qvy _)) hne (by rw[qj0];rfl) rfl]
   simp[encS_app,qj0]
  refine qdt rfl Tryz.func59 rfl (by kernel_rfl) (m:=11) rfl ?_;simp only[Z3,simprocAttr,Tryz.f59,effs,fx_59,hap]
  exact qdk hc (fun _=>hl) (.inr rfl) rfl (fun _ e=>Option.some.inj e) (fun e=>by cases e) ⟨rfl,by simp⟩
 |none=>
  obtain⟨rfl,rfl⟩:=c
  have hap:qb1 PP [.box [.slice [] .full]] 34 (.slice [] .full) (.slice (encS l) .full)=some (.slice (encS l) (.own 1),.heap [.box [.slice [] .full],.tok l.length 9] []):=by
   rw[qcj _ qgx (by rw[qj0];simpa using hb) rfl (qbt (qvy _)) hne]
   simp[qj0]
  refine qdt rfl Tryz.func59 rfl (by kernel_rfl) (m:=11) rfl ?_;simp only[Z3,simprocAttr,Tryz.f59,effs,fx_59,hap]
  exact qdk hc (fun _=>hl) (.inr rfl) rfl (t:=1) (fun _ e=>by cases e) (fun _=>wt _) ⟨rfl,by simp⟩
end Go.Ab
namespace Go.Ab
open Go Go.Ab.Tab
def qm7 (b:Bool):Str:=if b=true then[116,114,117,101]else[102,97,108,115,101]
def kW (ks:List (List Str)) (i:Nat):List Str:=match ks[i]? with|some x=>x|none=>[[63]]
def btwW (a:List Str) (w:Str) (b:List Str):List Str:=[[40]]++a++[w]++b++[[41]]
def armL (cons:List Str) (ks:List (List Str)):List (List Str):=List.zipWith (fun c k=>[c,[45,62]]++k) cons ks
def qk2 (word name:Str) (cons:List Str) (ks:List (List Str)):List Str:=[word,name,[40]]++sepW [124] (armL cons ks)++[[41]]
def qik (l:List Str) (sign:Str):List Str:=sepW sign (l.map fun s=>[s])
def brW (l:List Str):List Str:=if l.length=0 then[]else[[91]]++qik l [44]++[[93]]
def qrm (name:Str) (cons:List Str) (ks:List (List Str)):List Str:=[name]++brW cons++[[40]]++sepW [44] ks++[[41]]
def qp5 (op:Int) (name:Str) (n:Int) (cons:List Str) (ks:List (List Str)):List Str:=
 if op=1 then[decB n]else if op=2 then[qm7 (n==1)]else if op=3 then[name]else if op=4 then[name]
 else if op=5 then[[40],name]++kW ks 0++[[41]]
 else if op=6 then btwW (kW ks 0) name (kW ks 1)
 else if op=7 then[[40],[105,102]]++kW ks 0++[[116,104,101,110]]++kW ks 1++[[101,108,115,101]]++kW ks 2++[[41]]
 else if op=8 then btwW (kW ks 0) [102,98,121] (kW ks 1)
 else if op=10 then btwW (kW ks 0) [45,62] (kW ks 1)
 else if op=15 then btwW (kW ks 0) [101,118,101,114,121] (kW ks 1)
 else if op=9 then[[40],[112,114,101]]++kW ks 0++[[41]]
 else if op=11 then[[40]]++kW ks 0++[[119,104,101,110]]++qik cons [44]++[[40],name,[41],[41]]
 else if op=12 then qk2 [109,101,114,103,101] name cons ks
 else if op=13 then qk2 [109,97,116,99,104] name cons ks
 else if op=14 then qrm name cons ks
 else[[63]]
mutual
def PExpr.words:PExpr→List Str
 | .mk op name n cons kids=>qp5 op name n cons (qxr kids)
def qxr:List PExpr→List (List Str)
 |[]=>[]
 |k::r=>k.words::qxr r
end
theorem qxs (l:List PExpr):qxr l=l.map PExpr.words:=by
 induction l with
 |nil=>rfl
 |cons x r ih=>simp only[qxr,ih,ww]
theorem qeb (e:PExpr):e.words=qp5 e.op e.name e.n e.cons (e.kids.map PExpr.words):=by
 cases e;simp only[PExpr.words,qxs,PExpr.op,PExpr.name,PExpr.n,PExpr.cons,PExpr.kids]
def kidW (e:PExpr) (i:Nat):List Str:=kW (e.kids.map PExpr.words) i
theorem qow (e:PExpr) (i:Nat) (hl:e.kids.length≤qac) (ih:∀x∈e.kids,PrV 54 [.agg x.cells] x.words):PrV 103 [.agg e.cells,.int .i64 i] (kidW e i):=by
 intro ws hb
 obtain⟨h,hh⟩:∃h,h=pOwn 9 ws:=⟨_,rfl⟩
 rw[←hh]
 have c:Canon 9 h ws (some 1):=⟨rfl,hh⟩
 clear hh
 have p0:=c.at
 have hpos:0<h.length:=by
  exact(wd.1 p0.1).1
 by_cases hi:i<e.kids.length
 ·have e1:decide ((e.kids.length:Int)≤(i:Int))=false:=decide_eq_false (by omega)
  have e3:=qis e.kids i hi
  have hw:kidW e i=e.kids[i].words:=by simp[kidW,kW,hi]
  rw[hw]at hb ⊢
  have c1:=ih e.kids[i] (wk hi)
  refine qdt rfl Tryz.func103 rfl (by kernel_rfl) (m:=18) rfl ?_;simp only[Z3,Nat.reduceAdd,Nat.reduceBEq,Int.reduceBEq,Int.reduceBNe,Int.reduceLT,Int.reduceLE,Tryz.f103,effs,qxc,e1,e3]
  obtain⟨E1,hE1,p1,o1,l1⟩:=qa7 qaw c1 (by simp[qad,refs,e.kids[i].norefs]) (p0.app [.box e.cells]) (by(try simp only[wa,wb,wc]at hb);(try simp only[wa,wb,wc]);omega)
  simp only[Z3,Nat.reduceAdd,Nat.reduceBEq,Int.reduceBEq,Int.reduceBNe,Int.reduceLT,Int.reduceLE,effs,qxc,ty,hE1]
  clear hE1;generalize hh1:Eff.of (h++[.box e.cells]) E1=h1 at*;clear hh1
  exact qdk c (fun e=>by cases e) (.inr rfl) rfl (t:=1) (fun _ e=>Option.some.inj e) (fun e=>by cases e) (by simpa only[we,wg,wf]using p1)
 ·have e1:decide ((e.kids.length:Int)≤(i:Int))=true:=decide_eq_true (by omega)
  have hw:kidW e i=[[63]]:=by simp[kidW,kW,hi]
  rw[hw]at hb ⊢
  refine qdt rfl Tryz.func103 rfl (by kernel_rfl) (m:=18) rfl ?_;simp only[Z3,Nat.reduceAdd,Nat.reduceBEq,Int.reduceBEq,Int.reduceBNe,Int.reduceLT,Int.reduceLE,Tryz.f103,effs,qxc,e1]
  obtain⟨E1,hE1,p1,o1,l1⟩:=qa7 qaw (show PrW 59 [.slice [[.str [63]]] .full] [[63]]from qcs [[63]] (by simp)).own rfl (p0.app [.box e.cells]) (by(try simp only[wa,wb,wc]at hb);(try simp only[wa,wb,wc]);omega)
  simp only[Z3,Nat.reduceAdd,Nat.reduceBEq,Int.reduceBEq,Int.reduceBNe,Int.reduceLT,Int.reduceLE,effs,qxc,ty,hE1]
  clear hE1;generalize hh1:Eff.of (h++[.box e.cells]) E1=h1 at*;clear hh1
  exact qdk c (fun e=>by cases e) (.inl rfl) rfl (t:=1) (fun _ e=>Option.some.inj e) (fun e=>by cases e) (by simpa only[we,wg,wf]using p1)
theorem qox (e:PExpr) (s:Str) (hl:e.kids.length≤qac) (ih:∀x∈e.kids,PrV 54 [.agg x.cells] x.words):PrW 104 [.agg e.cells,.str s] (btwW (kidW e 0) s (kidW e 1)):=by
 intro ws tk h c hb
 have p0:=c.at
 have hpos:0<h.length:=by
  cases tk with
  |none=>exact(wd.1 p0.2).1
  |some t=>exact(wd.1 p0.1).1
 have k0:PrV 103 [.agg e.cells,.int .i64 0] (kidW e 0):=qow e 0 hl ih
 have k1:PrV 103 [.agg e.cells,.int .i64 1] (kidW e 1):=qow e 1 hl ih
 unfold btwW at hb ⊢
 have b_0:(h++[Blk.box e.cells])[h.length]? =some (.box e.cells):=qcq _ _
 refine qdt rfl Tryz.func104 rfl (by kernel_rfl) (m:=19) rfl ?_;simp only[Z3,Nat.reduceAdd,Nat.reduceBEq,Int.reduceBEq,Int.reduceBNe,Int.reduceLT,Int.reduceLE,Tryz.f104,effs,qpu]
 obtain⟨E1,hE1,tt,htt,hnn,p1,o1,l1⟩:=qdx qaw (show PrW 59 [.slice [[.str [40]]] .full] [[40]]from qcs [[40]] (by simp)) rfl (p0.app [.box e.cells]) (by(try simp only[wa,wb,wc]at hb);(try simp only[wa,wb,wc]);omega)
 have b_1:(Eff.of (h++[.box e.cells]) E1)[h.length]? =some (.box e.cells):=o1 _ _ (by omega) b_0
 simp only[Z3,Nat.reduceAdd,Nat.reduceBEq,Int.reduceBEq,Int.reduceBNe,Int.reduceLT,Int.reduceLE,effs,qpu,ty,b_1,hE1]
 clear hE1;generalize hh1:Eff.of (h++[.box e.cells]) E1=h1 at*;clear hh1
 obtain⟨E2,hE2,p2,o2,l2⟩:=qa7 qaw k0 (by simp[qad,refs,e.norefs]) p1 (by(try simp only[wa,wb,wc]at hb);(try simp only[wa,wb,wc]);omega)
 have b_2:(Eff.of h1 E2)[h.length]? =some (.box e.cells):=o2 _ _ (by omega) b_1
 simp only[Z3,Nat.reduceAdd,Nat.reduceBEq,Int.reduceBEq,Int.reduceBNe,Int.reduceLT,Int.reduceLE,effs,qpu,ty,b_2,hE2]
 clear hE2;generalize hh2:Eff.of h1 E2=h2 at*;clear hh2
 obtain⟨E3,hE3,p3,o3,l3⟩:=qa7 qaw (show PrW 59 [.slice [[.str s]] .full] [s]from qcs [s] (by simp)).own rfl p2 (by(try simp only[wa,wb,wc]at hb);(try simp only[wa,wb,wc]);omega)
 have b_3:(Eff.of h2 E3)[h.length]? =some (.box e.cells):=o3 _ _ (by omega) b_2
 simp only[Z3,Nat.reduceAdd,Nat.reduceBEq,Int.reduceBEq,Int.reduceBNe,Int.reduceLT,Int.reduceLE,effs,qpu,ty,b_3,hE3]
 clear hE3;generalize hh3:Eff.of h2 E3=h3 at*;clear hh3
 obtain⟨E4,hE4,p4,o4,l4⟩:=qa7 qaw k1 (by simp[qad,refs,e.norefs]) p3 (by(try simp only[wa,wb,wc]at hb);(try simp only[wa,wb,wc]);omega)
 have b_4:(Eff.of h3 E4)[h.length]? =some (.box e.cells):=o4 _ _ (by omega) b_3
 simp only[Z3,Nat.reduceAdd,Nat.reduceBEq,Int.reduceBEq,Int.reduceBNe,Int.reduceLT,Int.reduceLE,effs,qpu,ty,b_4,hE4]
 clear hE4;generalize hh4:Eff.of h3 E4=h4 at*;clear hh4
 obtain⟨E5,hE5,p5,o5,l5⟩:=qa7 qaw (show PrW 59 [.slice [[.str [41]]] .full] [[41]]from qcs [[41]] (by simp)).own rfl p4 (by(try simp only[wa,wb,wc]at hb);(try simp only[wa,wb,wc]);omega)
 have b_5:(Eff.of h4 E5)[h.length]? =some (.box e.cells):=o5 _ _ (by omega) b_4
 simp only[Z3,Nat.reduceAdd,Nat.reduceBEq,Int.reduceBEq,Int.reduceBNe,Int.reduceLT,Int.reduceLE,effs,qpu,ty,b_5,hE5]
 clear hE5;generalize hh5:Eff.of h4 E5=h5 at*;clear hh5
 exact qdk c (fun _=>by simp) (.inr rfl) rfl htt (fun e=>by have:=hnn e;simp only[wa]at this;omega) (by simpa only[we,wg,wf]using p5)
theorem list_c (l:List Str) (sign:Str) (hl:l.length≤qac):PrV 60 [qag l,.str sign] (qik l sign):=by
 intro ws hb
 obtain⟨h,hh⟩:∃h,h=pOwn 9 ws:=⟨_,rfl⟩
 rw[←hh]
 have c:Canon 9 h ws (some 1):=⟨rfl,hh⟩
 clear hh
 have p0:=c.at
 have hpos:0<h.length:=by
  exact(wd.1 p0.1).1
 unfold qik at hb ⊢
 refine qdt rfl Tryz.func60 rfl (by kernel_rfl) (m:=23) rfl ?_;simp only[Z3,Nat.reduceAdd,Nat.reduceBEq,Int.reduceBEq,Int.reduceBNe,Int.reduceLT,Int.reduceLE,Tryz.f60,effs,qop,qag]
 generalize hbl:qam PP cmp0 C lpC _=f;generalize hl0:lpC f _=r
 obtain⟨ex,s',rfl,rfl,h2⟩:=qch (α:=Nat) hl0 [6,7,11,12,13,14,15,16,17,18,19,20,21,22,23,24,25] (fun i=>[(10,.int .i64 i)]) (fun i g=>i≤l.length∧PrAt 9 g 0 (ws++sepW sign ((l.map fun s=>[s]).take i)) (some 1)) (fun i=>l.length-i) (fun _=>()) (fun ts _ ex s=>ex= .exit 0∧OutT [6,7,10,11,12,13,14,15,16,17,18,19,20,21,22,23,24,25] ts [] (fun g=>PrAt 9 g 0 (ws++sepW sign (l.map fun s=>[s])) (some 1)) s) 0 ⟨wu _,by simpa[sepW]using p0⟩ (by simp only[AtT,ats,wh]) (by
  rintro i j g d ⟨hi,pi⟩
  clear hl0;subst hbl
  have hg0:0<g.length:=(wd.1 pi.1).1
  by_cases hlt:i<l.length
  ·have e1:((i:Int)<(l.length)):=by omega
   have e3:=qir l i hlt
   have hq:=qrl sign (l.map fun s=>[s]) (i+1)
   have hsp:=qov sign (l.map fun s=>[s]) i [l[i]] (by simp[hlt])
   rw[hsp]at hq
   rcases i with _|i
   ·skip
    rw[if_pos rfl]at hsp hq
    have e4:decide ((0:Int)<((0:Nat):Int))=false:=rfl
    have e5:decide ((0:Int)<0)=false:=rfl
    have pi0:PrAt 9 g 0 (ws) (some 1):=by simpa[sepW]using pi
    simp only[Z3,Nat.reduceAdd,Nat.reduceBEq,Int.reduceBEq,Int.reduceBNe,Int.reduceLT,Int.reduceLE,effs,qop,ty,e1,e3,e4,e5]
    obtain⟨E1,hE1,p1,o1,l1⟩:=qa7 qaw (show PrW 59 [.slice [[.str l[0]]] .full] [l[0]]from qcs [l[0]] (by simp)).own rfl pi0 (by(try simp only[wa,wb,wc]at hb);(try simp only[wa,wb,wc]at hq);(try simp only[wa,wb,wc]);omega)
    simp only[Z3,Nat.reduceAdd,Nat.reduceBEq,Int.reduceBEq,Int.reduceBNe,Int.reduceLT,Int.reduceLE,effs,qop,ty,e1,e3,e4,e5,hE1,qaz (show 0≤qac by omega)]
    clear hE1;generalize hh1:Eff.of g E1=h1 at*;clear hh1
    exact .inl ⟨0+1,_,rfl,⟨hlt,by rw[hsp];simpa only[we]using p1⟩,by simp only[AtT,ats,wh],by(try simp only[]);omega,by first|rfl|trivial⟩
   ·skip
    rw[if_neg (by omega)]at hsp hq
    have e4:decide ((0:Int)<((i+1:Nat):Int))=true:=decide_eq_true (by omega)
    have e5:=e4
    simp only[Z3,Nat.reduceAdd,Nat.reduceBEq,Int.reduceBEq,Int.reduceBNe,Int.reduceLT,Int.reduceLE,effs,qop,ty,e1,e3,e4,e5]
    obtain⟨E1,hE1,p1,o1,l1⟩:=qa7 qaw (show PrW 59 [.slice [[.str sign]] .full] [sign]from qcs [sign] (by simp)).own rfl pi (by(try simp only[wa,wb,wc]at hb);(try simp only[wa,wb,wc]at hq);(try simp only[wa,wb,wc]);omega)
    simp only[Z3,Nat.reduceAdd,Nat.reduceBEq,Int.reduceBEq,Int.reduceBNe,Int.reduceLT,Int.reduceLE,effs,qop,ty,e1,e3,e4,e5,hE1]
    clear hE1;generalize hh1:Eff.of g E1=h1 at*;clear hh1
    obtain⟨E2,hE2,p2,o2,l2⟩:=qa7 qaw (show PrW 59 [.slice [[.str l[i+1]]] .full] [l[i+1]]from qcs [l[i+1]] (by simp)).own rfl p1 (by(try simp only[wa,wb,wc]at hb);(try simp only[wa,wb,wc]at hq);(try simp only[wa,wb,wc]);omega)
    simp only[Z3,Nat.reduceAdd,Nat.reduceBEq,Int.reduceBEq,Int.reduceBNe,Int.reduceLT,Int.reduceLE,effs,qop,ty,e1,e3,e4,e5,hE2,qaz (show i+1≤qac by omega)]
    clear hE2;generalize hh2:Eff.of h1 E2=h2 at*;clear hh2
    exact .inl ⟨i+1+1,_,rfl,⟨hlt,by rw[hsp];simpa only[we]using p2⟩,by simp only[AtT,ats,wh],by(try simp only[]);omega,by first|rfl|trivial⟩
  ·have e1:¬((i:Int)<(l.length)):=by omega
   simp only[Z3,Nat.reduceAdd,Nat.reduceBEq,Int.reduceBEq,Int.reduceBNe,Int.reduceLT,Int.reduceLE,effs,qop,ty,e1]
   have:(l.map fun s=>[s]).take i=l.map fun s=>[s]:=wj (by simp only[wm];omega)
   rw[this]at pi
   exact .inr ⟨_,_,rfl,by simp,rfl,⟨by simp only[AtT,ats],by simpa only[we,wg,wf]using pi⟩⟩)
 obtain⟨j,H,d,pf,rfl⟩:=h2.elim
 clear hl0
 simp only[Z3,Nat.reduceAdd,Nat.reduceBEq,Int.reduceBEq,Int.reduceBNe,Int.reduceLT,Int.reduceLE,qop]
 exact qdk c (fun e=>by cases e) (.inr rfl) rfl (t:=1) (fun _ e=>Option.some.inj e) (fun e=>by cases e) (by simpa only[we,wg,wf]using pf)
theorem arms_c (e:PExpr) (word:Str) (hs:e.Small) (ih:∀x∈e.kids,PrV 54 [.agg x.cells] x.words):PrW 105 [.str word,.agg e.cells] (qk2 word e.name e.cons (e.kids.map PExpr.words)):=by
 intro ws tk h c hb
 have p0:=c.at
 have hpos:0<h.length:=by
  cases tk with
  |none=>exact(wd.1 p0.2).1
  |some t=>exact(wd.1 p0.1).1
 have hl1:=hs.kids.1
 have hl2:=hs.cons.1
 unfold qk2 at hb ⊢
 obtain⟨n,hn0⟩:∃n,n=min e.kids.length e.cons.length:=⟨_,rfl⟩
 have hn:(if(e.cons.length:Int)<(e.kids.length:Int)then(e.cons.length:Int)else(e.kids.length:Int))=(n:Int):=by
  split<;>omega
 have hnl:(armL e.cons (e.kids.map PExpr.words)).length=n:=by simp only[armL,List.length_zipWith,wm];omega
 have b_0:(h++[Blk.box e.cells])[h.length]? =some (.box e.cells):=qcq _ _
 refine qdt rfl Tryz.func105 rfl (by kernel_rfl) (m:=44) rfl ?_;simp only[Z3,Nat.reduceAdd,Nat.reduceBEq,Int.reduceBEq,Int.reduceBNe,Int.reduceLT,Int.reduceLE,Tryz.f105,effs,qh3]
 obtain⟨E1,hE1,tt,htt,hnn,p1,o1,l1⟩:=qdx qaw (show PrW 59 [.slice [[.str word],[.str e.name],[.str [40]]] .full] [word,e.name,[40]]from qcs [word,e.name,[40]] (by simp)) rfl (p0.app [.box e.cells]) (by(try simp only[wa,wb,wc]at hb);(try simp only[wa,wb,wc]);omega)
 have b_1:(Eff.of (h++[.box e.cells]) E1)[h.length]? =some (.box e.cells):=o1 _ _ (by omega) b_0
 simp only[Z3,Nat.reduceAdd,Nat.reduceBEq,Int.reduceBEq,Int.reduceBNe,Int.reduceLT,Int.reduceLE,effs,qh3,ty,b_1,qag,hn,hE1]
 clear hE1;generalize hh1:Eff.of (h++[.box e.cells]) E1=h1 at*;clear hh1
 generalize hbl:qam PP cmp0 C lpC _=f;generalize hl0:lpC f _=r
 obtain⟨ex,s',rfl,rfl,h2⟩:=qch (α:=Nat) hl0 [6,21,22,23,24,25,26,27,28,29,30,31,32,33,34,35,36,37,38,39,40,41,42,43] (fun i=>[(20,.int .i64 i)]) (fun i g=>i≤n∧PrAt 9 g 0 (ws++[word,e.name,[40]]++sepW [124] ((armL e.cons (e.kids.map PExpr.words)).take i)) (some tt)∧g[h.length]? =some (.box e.cells)) (fun i=>n-i) (fun _=>()) (fun ts _ ex s=>ex= .exit 0∧OutT [6,20,21,22,23,24,25,26,27,28,29,30,31,32,33,34,35,36,37,38,39,40,41,42,43] ts [] (fun g=>PrAt 9 g 0 (ws++[word,e.name,[40]]++sepW [124] (armL e.cons (e.kids.map PExpr.words))) (some tt)∧g[h.length]? =some (.box e.cells)) s) 0 ⟨wu _,by simpa[sepW]using p1,b_1⟩ (by simp only[AtT,ats,wh]) (by
  rintro i j g d ⟨hi,pi,bg_0⟩
  clear hl0;subst hbl
  have hg0:0<g.length:=(wd.1 pi.1).1
  by_cases hlt:i<n
  ·have e1:((i:Int)<(n)):=by omega
   have hk1:i<e.kids.length:=by omega
   have hk2:i<e.cons.length:=by omega
   have e3:=qir e.cons i hk2
   have e3k:=qis e.kids i hk1
   have hmk:=wk hk1
   have hq:=qrl [124] (armL e.cons (e.kids.map PExpr.words)) (i+1)
   have hsp:=qov [124] (armL e.cons (e.kids.map PExpr.words)) i ([e.cons[i],[45,62]]++e.kids[i].words) (by simp[armL,List.getElem?_zipWith,hk1,hk2])
   rw[hsp]at hq
   rcases i with _|i
   ·skip
    rw[if_pos rfl]at hsp hq
    have e4:decide ((0:Int)<((0:Nat):Int))=false:=rfl
    have e5:decide ((0:Int)<0)=false:=rfl
    have pi0:PrAt 9 g 0 (ws++[word,e.name,[40]]) (some tt):=by simpa[sepW]using pi
    simp only[Z3,Nat.reduceAdd,Nat.reduceBEq,Int.reduceBEq,Int.reduceBNe,Int.reduceLT,Int.reduceLE,effs,qh3,ty,bg_0,qag,e1,e3,e3k,e4,e5]
    obtain⟨E1,hE1,p1,o1,l1⟩:=qa7 qaw (show PrW 59 [.slice [[.str e.cons[0]],[.str [45,62]]] .full] [e.cons[0],[45,62]]from qcs [e.cons[0],[45,62]] (by simp)).own rfl pi0 (by(try simp only[wa,wb,wc]at hb);(try simp only[wa,wb,wc]at hq);(try simp only[wa,wb,wc]);omega)
    have bg_1:(Eff.of g E1)[h.length]? =some (.box e.cells):=o1 _ _ (by omega) bg_0
    simp only[Z3,Nat.reduceAdd,Nat.reduceBEq,Int.reduceBEq,Int.reduceBNe,Int.reduceLT,Int.reduceLE,effs,qh3,ty,bg_1,qag,e1,e3,e3k,e4,e5,hE1]
    clear hE1;generalize hh1:Eff.of g E1=h1 at*;clear hh1
    obtain⟨E2,hE2,p2,o2,l2⟩:=qa7 qaw (ih e.kids[0] hmk) (by simp[qad,refs,e.kids[0].norefs]) p1 (by(try simp only[wa,wb,wc]at hb);(try simp only[wa,wb,wc]at hq);(try simp only[wa,wb,wc]);omega)
    have bg_2:(Eff.of h1 E2)[h.length]? =some (.box e.cells):=o2 _ _ (by omega) bg_1
    simp only[Z3,Nat.reduceAdd,Nat.reduceBEq,Int.reduceBEq,Int.reduceBNe,Int.reduceLT,Int.reduceLE,effs,qh3,ty,bg_2,qag,e1,e3,e3k,e4,e5,hE2,qaz (show 0≤qac by omega)]
    clear hE2;generalize hh2:Eff.of h1 E2=h2 at*;clear hh2
    exact .inl ⟨0+1,_,rfl,⟨hlt,by rw[hsp];simpa only[we,wg,wf]using p2,bg_2⟩,by simp only[AtT,ats,wh],by(try simp only[]);omega,by first|rfl|trivial⟩
   ·skip
    rw[if_neg (by omega)]at hsp hq
    have e4:decide ((0:Int)<((i+1:Nat):Int))=true:=decide_eq_true (by omega)
    have e5:=e4
    simp only[Z3,Nat.reduceAdd,Nat.reduceBEq,Int.reduceBEq,Int.reduceBNe,Int.reduceLT,Int.reduceLE,effs,qh3,ty,bg_0,qag,e1,e3,e3k,e4,e5]
    obtain⟨E1,hE1,p1,o1,l1⟩:=qa7 qaw (show PrW 59 [.slice [[.str [124]]] .full] [[124]]from qcs [[124]] (by simp)).own rfl pi (by(try simp only[wa,wb,wc]at hb);(try simp only[wa,wb,wc]at hq);(try simp only[wa,wb,wc]);omega)
    have bg_1:(Eff.of g E1)[h.length]? =some (.box e.cells):=o1 _ _ (by omega) bg_0
    simp only[Z3,Nat.reduceAdd,Nat.reduceBEq,Int.reduceBEq,Int.reduceBNe,Int.reduceLT,Int.reduceLE,effs,qh3,ty,bg_1,qag,e1,e3,e3k,e4,e5,hE1]
    clear hE1;generalize hh1:Eff.of g E1=h1 at*;clear hh1
    obtain⟨E2,hE2,p2,o2,l2⟩:=qa7 qaw (show PrW 59 [.slice [[.str e.cons[i+1]],[.str [45,62]]] .full] [e.cons[i+1],[45,62]]from qcs [e.cons[i+1],[45,62]] (by simp)).own rfl p1 (by(try simp only[wa,wb,wc]at hb);(try simp only[wa,wb,wc]at hq);(try simp only[wa,wb,wc]);omega)
    have bg_2:(Eff.of h1 E2)[h.length]? =some (.box e.cells):=o2 _ _ (by omega) bg_1
    simp only[Z3,Nat.reduceAdd,Nat.reduceBEq,Int.reduceBEq,Int.reduceBNe,Int.reduceLT,Int.reduceLE,effs,qh3,ty,bg_2,qag,e1,e3,e3k,e4,e5,hE2]
    clear hE2;generalize hh2:Eff.of h1 E2=h2 at*;clear hh2
    obtain⟨E3,hE3,p3,o3,l3⟩:=qa7 qaw (ih e.kids[i+1] hmk) (by simp[qad,refs,e.kids[i+1].norefs]) p2 (by(try simp only[wa,wb,wc]at hb);(try simp only[wa,wb,wc]at hq);(try simp only[wa,wb,wc]);omega)
    have bg_3:(Eff.of h2 E3)[h.length]? =some (.box e.cells):=o3 _ _ (by omega) bg_2
    simp only[Z3,Nat.reduceAdd,Nat.reduceBEq,Int.reduceBEq,Int.reduceBNe,Int.reduceLT,Int.reduceLE,effs,qh3,ty,bg_3,qag,e1,e3,e3k,e4,e5,hE3,qaz (show i+1≤qac by omega)]
    clear hE3;generalize hh3:Eff.of h2 E3=h3 at*;clear hh3
    exact .inl ⟨i+1+1,_,rfl,⟨hlt,by rw[hsp];simpa only[we,wg,wf]using p3,bg_3⟩,by simp only[AtT,ats,wh],by(try simp only[]);omega,by first|rfl|trivial⟩
  ·have e1:¬((i:Int)<(n)):=by omega
   simp only[Z3,Nat.reduceAdd,Nat.reduceBEq,Int.reduceBEq,Int.reduceBNe,Int.reduceLT,Int.reduceLE,effs,qh3,ty,e1]
   have:(armL e.cons (e.kids.map PExpr.words)).take i=armL e.cons (e.kids.map PExpr.words):=wj (by omega)
   rw[this]at pi
   exact .inr ⟨_,_,rfl,by simp,rfl,⟨by simp only[AtT,ats],by simpa only[we,wg,wf]using pi,bg_0⟩⟩)
 obtain⟨j,H,d,⟨pf,bf_0⟩,rfl⟩:=h2.elim
 clear hl0
 simp only[Z3,Nat.reduceAdd,Nat.reduceBEq,Int.reduceBEq,Int.reduceBNe,Int.reduceLT,Int.reduceLE,effs,qh3]
 obtain⟨E11,hE11,p11,o11,l11⟩:=qa7 qaw (show PrW 59 [.slice [[.str [41]]] .full] [[41]]from qcs [[41]] (by simp)).own rfl pf (by(try simp only[wa,wb,wc]at hb);(try simp only[wa,wb,wc]);omega)
 simp only[Z3,Nat.reduceAdd,Nat.reduceBEq,Int.reduceBEq,Int.reduceBNe,Int.reduceLT,Int.reduceLE,effs,qh3,ty,hE11]
 clear hE11;generalize hh11:Eff.of H E11=h11 at*;clear hh11
 exact qdk c (fun _=>by simp) (.inr rfl) rfl htt (fun e=>by have:=hnn e;simp only[wa]at this;omega) (by simpa only[we,wg,wf]using p11)
theorem call_c (e:PExpr) (hs:e.Small) (ih:∀x∈e.kids,PrV 54 [.agg x.cells] x.words):PrW 106 [.agg e.cells] (qrm e.name e.cons (e.kids.map PExpr.words)):=by
 intro ws tk h c hb
 have p0:=c.at
 have hpos:0<h.length:=by
  cases tk with
  |none=>exact(wd.1 p0.2).1
  |some t=>exact(wd.1 p0.1).1
 have hl1:=hs.kids.1
 have hl2:=hs.cons.1
 have klist:PrV 60 [qag e.cons,.str [44]] (qik e.cons [44]):=list_c e.cons [44] hl2
 unfold qrm at hb ⊢
 have b_0:(h++[Blk.box e.cells])[h.length]? =some (.box e.cells):=qcq _ _
 refine qdt rfl Tryz.func106 rfl (by kernel_rfl) (m:=46) rfl ?_;simp only[Z3,Nat.reduceAdd,Nat.reduceBEq,Int.reduceBEq,Int.reduceBNe,Int.reduceLT,Int.reduceLE,Tryz.f106,effs,qdh]
 obtain⟨E1,hE1,tt,htt,hnn,p1,o1,l1⟩:=qdx qaw (show PrW 59 [.slice [[.str e.name]] .full] [e.name]from qcs [e.name] (by simp)) rfl (p0.app [.box e.cells]) (by(try simp only[wa,wb,wc]at hb);(try simp only[wa,wb,wc]);omega)
 have b_1:(Eff.of (h++[.box e.cells]) E1)[h.length]? =some (.box e.cells):=o1 _ _ (by omega) b_0
 simp only[Z3,Nat.reduceAdd,Nat.reduceBEq,Int.reduceBEq,Int.reduceBNe,Int.reduceLT,Int.reduceLE,effs,qdh,ty,b_1,hE1]
 clear hE1;generalize hh1:Eff.of (h++[.box e.cells]) E1=h1 at*;clear hh1
 by_cases hz:e.cons.length=0
 ·have e0:decide ((0:Int)<(e.cons.length:Int))=false:=decide_eq_false (by omega)
  have hbr:brW e.cons=[]:=if_pos hz
  rw[hbr]at hb ⊢
  simp only[List.append_nil]at hb ⊢
  simp only[Z3,Nat.reduceAdd,Nat.reduceBEq,Int.reduceBEq,Int.reduceBNe,Int.reduceLT,Int.reduceLE,effs,qdh,ty,b_1,e0,qf3]
  obtain⟨E2,hE2,p2,o2,l2⟩:=qa7 qaw (show PrW 59 [.slice [[.str [40]]] .full] [[40]]from qcs [[40]] (by simp)).own rfl p1 (by(try simp only[wa,wb,wc]at hb);(try simp only[wa,wb,wc]);omega)
  have b_2:(Eff.of h1 E2)[h.length]? =some (.box e.cells):=o2 _ _ (by omega) b_1
  simp only[Z3,Nat.reduceAdd,Nat.reduceBEq,Int.reduceBEq,Int.reduceBNe,Int.reduceLT,Int.reduceLE,effs,qdh,ty,b_2,e0,qf3,hE2]
  clear hE2;generalize hh2:Eff.of h1 E2=h2 at*;clear hh2
  generalize hbl:qam PP cmp0 C lpC _=f;generalize hl0:lpC f _=r
  obtain⟨ex,s',rfl,rfl,h2⟩:=qch (α:=Nat) hl0 [4,5,32,33,34,35,36,37,38,39,40,41,42,43,44] (fun i=>[(31,.int .i64 i)]) (fun i g=>i≤e.kids.length∧PrAt 9 g 0 (ws++[e.name]++[[40]]++sepW [44] ((e.kids.map PExpr.words).take i)) (some tt)) (fun i=>e.kids.length-i) (fun _=>()) (fun ts _ ex s=>ex= .exit 0∧OutT [4,5,31,32,33,34,35,36,37,38,39,40,41,42,43,44] ts [] (fun g=>PrAt 9 g 0 (ws++[e.name]++[[40]]++sepW [44] (e.kids.map PExpr.words)) (some tt)) s) 0 ⟨wu _,by simpa[sepW]using p2⟩ (by simp only[AtT,ats,wh]) (by
   rintro i j g d ⟨hi,pi⟩
   clear hl0;subst hbl
   have hg0:0<g.length:=(wd.1 pi.1).1
   by_cases hlt:i<e.kids.length
   ·have e1:((i:Int)<(e.kids.length)):=by omega
    have e3k:=qis e.kids i hlt
    have hmk:=wk hlt
    have hq:=qrl [44] (e.kids.map PExpr.words) (i+1)
    have hsp:=qov [44] (e.kids.map PExpr.words) i e.kids[i].words (by simp[hlt])
    rw[hsp]at hq
    rcases i with _|i
    ·skip
     rw[if_pos rfl]at hsp hq
     have e4:decide ((0:Int)<((0:Nat):Int))=false:=rfl
     have e5:decide ((0:Int)<0)=false:=rfl
     have pi0:PrAt 9 g 0 (ws++[e.name]++[[40]]) (some tt):=by simpa[sepW]using pi
     have bx_0:(g++[Blk.box e.kids[0].cells])[g.length]? =some (.box e.kids[0].cells):=qcq _ _
     simp only[Z3,Nat.reduceAdd,Nat.reduceBEq,Int.reduceBEq,Int.reduceBNe,Int.reduceLT,Int.reduceLE,effs,qdh,ty,bx_0,e1,e3k,e4,e5]
     obtain⟨E1,hE1,p1,o1,l1⟩:=qa7 qaw (ih e.kids[0] hmk) (by simp[qad,refs,e.kids[0].norefs]) (pi0.app [.box e.kids[0].cells]) (by(try simp only[wa,wb,wc]at hb);(try simp only[wa,wb,wc]at hq);(try simp only[wa,wb,wc]);omega)
     have bx_1:(Eff.of (g++[.box e.kids[0].cells]) E1)[g.length]? =some (.box e.kids[0].cells):=o1 _ _ (by omega) bx_0
     simp only[Z3,Nat.reduceAdd,Nat.reduceBEq,Int.reduceBEq,Int.reduceBNe,Int.reduceLT,Int.reduceLE,effs,qdh,ty,bx_1,e1,e3k,e4,e5,hE1,qaz (show 0≤qac by omega)]
     clear hE1;generalize hh1:Eff.of (g++[.box e.kids[0].cells]) E1=h1 at*;clear hh1
     exact .inl ⟨0+1,_,rfl,⟨hlt,by rw[hsp];simpa only[we,wg,wf]using p1⟩,by simp only[AtT,ats,wh],by(try simp only[]);omega,by first|rfl|trivial⟩
    ·skip
     rw[if_neg (by omega)]at hsp hq
     have e4:decide ((0:Int)<((i+1:Nat):Int))=true:=decide_eq_true (by omega)
     have e5:=e4
     have bx_0:(g++[Blk.box e.kids[i+1].cells])[g.length]? =some (.box e.kids[i+1].cells):=qcq _ _
     simp only[Z3,Nat.reduceAdd,Nat.reduceBEq,Int.reduceBEq,Int.reduceBNe,Int.reduceLT,Int.reduceLE,effs,qdh,ty,bx_0,e1,e3k,e4,e5]
     obtain⟨E1,hE1,p1,o1,l1⟩:=qa7 qaw (show PrW 59 [.slice [[.str [44]]] .full] [[44]]from qcs [[44]] (by simp)).own rfl (pi.app [.box e.kids[i+1].cells]) (by(try simp only[wa,wb,wc]at hb);(try simp only[wa,wb,wc]at hq);(try simp only[wa,wb,wc]);omega)
     have bx_1:(Eff.of (g++[.box e.kids[i+1].cells]) E1)[g.length]? =some (.box e.kids[i+1].cells):=o1 _ _ (by omega) bx_0
     simp only[Z3,Nat.reduceAdd,Nat.reduceBEq,Int.reduceBEq,Int.reduceBNe,Int.reduceLT,Int.reduceLE,effs,qdh,ty,bx_1,e1,e3k,e4,e5,hE1]
     clear hE1;generalize hh1:Eff.of (g++[.box e.kids[i+1].cells]) E1=h1 at*;clear hh1
     obtain⟨E2,hE2,p2,o2,l2⟩:=qa7 qaw (ih e.kids[i+1] hmk) (by simp[qad,refs,e.kids[i+1].norefs]) p1 (by(try simp only[wa,wb,wc]at hb);(try simp only[wa,wb,wc]at hq);(try simp only[wa,wb,wc]);omega)
     have bx_2:(Eff.of h1 E2)[g.length]? =some (.box e.kids[i+1].cells):=o2 _ _ (by omega) bx_1
     simp only[Z3,Nat.reduceAdd,Nat.reduceBEq,Int.reduceBEq,Int.reduceBNe,Int.reduceLT,Int.reduceLE,effs,qdh,ty,bx_2,e1,e3k,e4,e5,hE2,qaz (show i+1≤qac by omega)]
     clear hE2;generalize hh2:Eff.of h1 E2=h2 at*;clear hh2
     exact .inl ⟨i+1+1,_,rfl,⟨hlt,by rw[hsp];simpa only[we,wg,wf]using p2⟩,by simp only[AtT,ats,wh],by(try simp only[]);omega,by first|rfl|trivial⟩
   ·have e1:¬((i:Int)<(e.kids.length)):=by omega
    simp only[Z3,Nat.reduceAdd,Nat.reduceBEq,Int.reduceBEq,Int.reduceBNe,Int.reduceLT,Int.reduceLE,effs,qdh,ty,e1]
    have:(e.kids.map PExpr.words).take i=e.kids.map PExpr.words:=wj (by simp only[wm];omega)
    rw[this]at pi
    exact .inr ⟨_,_,rfl,by simp,rfl,⟨by simp only[AtT,ats],by simpa only[we,wg,wf]using pi⟩⟩)
  obtain⟨j,H,d,pf,rfl⟩:=h2.elim
  clear hl0
  simp only[Z3,Nat.reduceAdd,Nat.reduceBEq,Int.reduceBEq,Int.reduceBNe,Int.reduceLT,Int.reduceLE,effs,qdh]
  obtain⟨E11,hE11,p11,o11,l11⟩:=qa7 qaw (show PrW 59 [.slice [[.str [41]]] .full] [[41]]from qcs [[41]] (by simp)).own rfl pf (by(try simp only[wa,wb,wc]at hb);(try simp only[wa,wb,wc]);omega)
  simp only[Z3,Nat.reduceAdd,Nat.reduceBEq,Int.reduceBEq,Int.reduceBNe,Int.reduceLT,Int.reduceLE,effs,qdh,ty,hE11]
  clear hE11;generalize hh11:Eff.of H E11=h11 at*;clear hh11
  exact qdk c (fun _=>by simp) (.inr rfl) rfl htt (fun e=>by have:=hnn e;simp only[wa]at this;omega) (by simpa only[we,wg,wf]using p11)
 ·have e0:decide ((0:Int)<(e.cons.length:Int))=true:=decide_eq_true (by omega)
  have hbr:brW e.cons=[[91]]++qik e.cons [44]++[[93]]:=if_neg hz
  rw[hbr]at hb ⊢
  simp only[Z3,Nat.reduceAdd,Nat.reduceBEq,Int.reduceBEq,Int.reduceBNe,Int.reduceLT,Int.reduceLE,effs,qdh,ty,b_1,e0,qf3]
  obtain⟨E2,hE2,p2,o2,l2⟩:=qa7 qaw (show PrW 59 [.slice [[.str [91]]] .full] [[91]]from qcs [[91]] (by simp)).own rfl p1 (by(try simp only[wa,wb,wc]at hb);(try simp only[wa,wb,wc]);omega)
  have b_2:(Eff.of h1 E2)[h.length]? =some (.box e.cells):=o2 _ _ (by omega) b_1
  simp only[Z3,Nat.reduceAdd,Nat.reduceBEq,Int.reduceBEq,Int.reduceBNe,Int.reduceLT,Int.reduceLE,effs,qdh,ty,b_2,e0,qf3,hE2]
  clear hE2;generalize hh2:Eff.of h1 E2=h2 at*;clear hh2
  obtain⟨E3,hE3,p3,o3,l3⟩:=qa7 qaw klist rfl p2 (by(try simp only[wa,wb,wc]at hb);(try simp only[wa,wb,wc]);omega)
  have b_3:(Eff.of h2 E3)[h.length]? =some (.box e.cells):=o3 _ _ (by omega) b_2
  simp only[Z3,Nat.reduceAdd,Nat.reduceBEq,Int.reduceBEq,Int.reduceBNe,Int.reduceLT,Int.reduceLE,effs,qdh,ty,b_3,e0,qf3,hE3]
  clear hE3;generalize hh3:Eff.of h2 E3=h3 at*;clear hh3
  obtain⟨E4,hE4,p4,o4,l4⟩:=qa7 qaw (show PrW 59 [.slice [[.str [93]]] .full] [[93]]from qcs [[93]] (by simp)).own rfl p3 (by(try simp only[wa,wb,wc]at hb);(try simp only[wa,wb,wc]);omega)
  have b_4:(Eff.of h3 E4)[h.length]? =some (.box e.cells):=o4 _ _ (by omega) b_3
  simp only[Z3,Nat.reduceAdd,Nat.reduceBEq,Int.reduceBEq,Int.reduceBNe,Int.reduceLT,Int.reduceLE,effs,qdh,ty,b_4,e0,qf3,hE4]
  clear hE4;generalize hh4:Eff.of h3 E4=h4 at*;clear hh4
  obtain⟨E5,hE5,p5,o5,l5⟩:=qa7 qaw (show PrW 59 [.slice [[.str [40]]] .full] [[40]]from qcs [[40]] (by simp)).own rfl p4 (by(try simp only[wa,wb,wc]at hb);(try simp only[wa,wb,wc]);omega)
  have b_5:(Eff.of h4 E5)[h.length]? =some (.box e.cells):=o5 _ _ (by omega) b_4
  simp only[Z3,Nat.reduceAdd,Nat.reduceBEq,Int.reduceBEq,Int.reduceBNe,Int.reduceLT,Int.reduceLE,effs,qdh,ty,b_5,e0,qf3,hE5]
  clear hE5;generalize hh5:Eff.of h4 E5=h5 at*;clear hh5
  generalize hbl:qam PP cmp0 C lpC _=f;generalize hl0:lpC f _=r
  obtain⟨ex,s',rfl,rfl,h2⟩:=qch (α:=Nat) hl0 [4,5,32,33,34,35,36,37,38,39,40,41,42,43,44] (fun i=>[(31,.int .i64 i)]) (fun i g=>i≤e.kids.length∧PrAt 9 g 0 (ws++[e.name]++[[91]]++qik e.cons [44]++[[93]]++[[40]]++sepW [44] ((e.kids.map PExpr.words).take i)) (some tt)) (fun i=>e.kids.length-i) (fun _=>()) (fun ts _ ex s=>ex= .exit 0∧OutT [4,5,31,32,33,34,35,36,37,38,39,40,41,42,43,44] ts [] (fun g=>PrAt 9 g 0 (ws++[e.name]++[[91]]++qik e.cons [44]++[[93]]++[[40]]++sepW [44] (e.kids.map PExpr.words)) (some tt)) s) 0 ⟨wu _,by simpa[sepW]using p5⟩ (by simp only[AtT,ats,wh]) (by
   rintro i j g d ⟨hi,pi⟩
   clear hl0;subst hbl
   have hg0:0<g.length:=(wd.1 pi.1).1
   by_cases hlt:i<e.kids.length
   ·have e1:((i:Int)<(e.kids.length)):=by omega
    have e3k:=qis e.kids i hlt
    have hmk:=wk hlt
    have hq:=qrl [44] (e.kids.map PExpr.words) (i+1)
    have hsp:=qov [44] (e.kids.map PExpr.words) i e.kids[i].words (by simp[hlt])
    rw[hsp]at hq
    rcases i with _|i
    ·skip
     rw[if_pos rfl]at hsp hq
     have e4:decide ((0:Int)<((0:Nat):Int))=false:=rfl
     have e5:decide ((0:Int)<0)=false:=rfl
     have pi0:PrAt 9 g 0 (ws++[e.name]++[[91]]++qik e.cons [44]++[[93]]++[[40]]) (some tt):=by simpa[sepW]using pi
     have bx_0:(g++[Blk.box e.kids[0].cells])[g.length]? =some (.box e.kids[0].cells):=qcq _ _
     simp only[Z3,Nat.reduceAdd,Nat.reduceBEq,Int.reduceBEq,Int.reduceBNe,Int.reduceLT,Int.reduceLE,effs,qdh,ty,bx_0,e1,e3k,e4,e5]
     obtain⟨E1,hE1,p1,o1,l1⟩:=qa7 qaw (ih e.kids[0] hmk) (by simp[qad,refs,e.kids[0].norefs]) (pi0.app [.box e.kids[0].cells]) (by(try simp only[wa,wb,wc]at hb);(try simp only[wa,wb,wc]at hq);(try simp only[wa,wb,wc]);omega)
     have bx_1:(Eff.of (g++[.box e.kids[0].cells]) E1)[g.length]? =some (.box e.kids[0].cells):=o1 _ _ (by omega) bx_0
     simp only[Z3,Nat.reduceAdd,Nat.reduceBEq,Int.reduceBEq,Int.reduceBNe,Int.reduceLT,Int.reduceLE,effs,qdh,ty,bx_1,e1,e3k,e4,e5,hE1,qaz (show 0≤qac by omega)]
     clear hE1;generalize hh1:Eff.of (g++[.box e.kids[0].cells]) E1=h1 at*;clear hh1
     exact .inl ⟨0+1,_,rfl,⟨hlt,by rw[hsp];simpa only[we,wg,wf]using p1⟩,by simp only[AtT,ats,wh],by(try simp only[]);omega,by first|rfl|trivial⟩
    ·skip
     rw[if_neg (by omega)]at hsp hq
     have e4:decide ((0:Int)<((i+1:Nat):Int))=true:=decide_eq_true (by omega)
     have e5:=e4
     have bx_0:(g++[Blk.box e.kids[i+1].cells])[g.length]? =some (.box e.kids[i+1].cells):=qcq _ _
     simp only[Z3,Nat.reduceAdd,Nat.reduceBEq,Int.reduceBEq,Int.reduceBNe,Int.reduceLT,Int.reduceLE,effs,qdh,ty,bx_0,e1,e3k,e4,e5]
     obtain⟨E1,hE1,p1,o1,l1⟩:=qa7 qaw (show PrW 59 [.slice [[.str [44]]] .full] [[44]]from qcs [[44]] (by simp)).own rfl (pi.app [.box e.kids[i+1].cells]) (by(try simp only[wa,wb,wc]at hb);(try simp only[wa,wb,wc]at hq);(try simp only[wa,wb,wc]);omega)
     have bx_1:(Eff.of (g++[.box e.kids[i+1].cells]) E1)[g.length]? =some (.box e.kids[i+1].cells):=o1 _ _ (by omega) bx_0
     simp only[Z3,Nat.reduceAdd,Nat.reduceBEq,Int.reduceBEq,Int.reduceBNe,Int.reduceLT,Int.reduceLE,effs,qdh,ty,bx_1,e1,e3k,e4,e5,hE1]
     clear hE1;generalize hh1:Eff.of (g++[.box e.kids[i+1].cells]) E1=h1 at*;clear hh1
     obtain⟨E2,hE2,p2,o2,l2⟩:=qa7 qaw (ih e.kids[i+1] hmk) (by simp[qad,refs,e.kids[i+1].norefs]) p1 (by(try simp only[wa,wb,wc]at hb);(try simp only[wa,wb,wc]at hq);(try simp only[wa,wb,wc]);omega)
     have bx_2:(Eff.of h1 E2)[g.length]? =some (.box e.kids[i+1].cells):=o2 _ _ (by omega) bx_1
     simp only[Z3,Nat.reduceAdd,Nat.reduceBEq,Int.reduceBEq,Int.reduceBNe,Int.reduceLT,Int.reduceLE,effs,qdh,ty,bx_2,e1,e3k,e4,e5,hE2,qaz (show i+1≤qac by omega)]
     clear hE2;generalize hh2:Eff.of h1 E2=h2 at*;clear hh2
     exact .inl ⟨i+1+1,_,rfl,⟨hlt,by rw[hsp];simpa only[we,wg,wf]using p2⟩,by simp only[AtT,ats,wh],by(try simp only[]);omega,by first|rfl|trivial⟩
   ·have e1:¬((i:Int)<(e.kids.length)):=by omega
    simp only[Z3,Nat.reduceAdd,Nat.reduceBEq,Int.reduceBEq,Int.reduceBNe,Int.reduceLT,Int.reduceLE,effs,qdh,ty,e1]
    have:(e.kids.map PExpr.words).take i=e.kids.map PExpr.words:=wj (by simp only[wm];omega)
    rw[this]at pi
    exact .inr ⟨_,_,rfl,by simp,rfl,⟨by simp only[AtT,ats],by simpa only[we,wg,wf]using pi⟩⟩)
  obtain⟨j,H,d,pf,rfl⟩:=h2.elim
  clear hl0
  simp only[Z3,Nat.reduceAdd,Nat.reduceBEq,Int.reduceBEq,Int.reduceBNe,Int.reduceLT,Int.reduceLE,effs,qdh]
  obtain⟨E11,hE11,p11,o11,l11⟩:=qa7 qaw (show PrW 59 [.slice [[.str [41]]] .full] [[41]]from qcs [[41]] (by simp)).own rfl pf (by(try simp only[wa,wb,wc]at hb);(try simp only[wa,wb,wc]);omega)
  simp only[Z3,Nat.reduceAdd,Nat.reduceBEq,Int.reduceBEq,Int.reduceBNe,Int.reduceLT,Int.reduceLE,effs,qdh,ty,hE11]
  clear hE11;generalize hh11:Eff.of H E11=h11 at*;clear hh11
  exact qdk c (fun _=>by simp) (.inr rfl) rfl htt (fun e=>by have:=hnn e;simp only[wa]at this;omega) (by simpa only[we,wg,wf]using p11)
end Go.Ab
namespace Go.Ab
open Go Go.Ab.Tab
mutual
def nd:PExpr→Nat
 | .mk _ _ _ _ ks=>ndL ks+1
def ndL:List PExpr→Nat
 |[]=>0
 |k::r=>max (nd k) (ndL r)
end
def stopA (r:List PTok):Prop:=hasS [91] r=false∧hasS [40] r=false
def stopU (r:List PTok):Prop:=stopA r∧hasS [119,104,101,110] r=false∧hasS [101,118,101,114,121] r=false
def noPre (ts:List PTok):Prop:=∀m R o,qef m R o ts=qd2 m R o ts
def Back (e:PExpr):Prop:=∀o r,o+2*nd e≤102→stopA r→Ev (fun m n=>qhu m (pE n) o (toks e.words++r)) (.ok e r)
def Fst (e:PExpr):Prop:=∀r,noPre (toks e.words++r)
theorem Ev.when0 {e:PExpr} {r:List PTok} (hw:hasS [119,104,101,110] r=false):Ev (fun m _=>qdz m e r) (.ok e r):=
 Ev.succ (g:=fun _ _=> .ok e r) (fun m n=>by simp only[qdz,hw];rfl) (Ev.pure fun _ _=>rfl)
theorem Ev.sampled {o:Nat} {ts r:List PTok} {e:PExpr} (h:Ev (fun m n=>qhu m (pE n) o ts) (.ok e r)) (hw:hasS [119,104,101,110] r=false) (he:hasS [101,118,101,114,121] r=false):Ev (fun m n=>qd2 m (pE n) o ts) (.ok e r):=by
 unfold qd2
 refine Ev.bind (f:=fun m n=>qhu m (pE n) o ts) (k:=fun m n e ts=>(if e.op==14 && hasS [101,118,101,114,121] ts then(pE n o 0 ts.tail).bind fun k ts=> .ok (qn0 e k) ts else .ok e ts).bind fun e ts=>qdz m e ts) h ?_
 refine Ev.congr (g:=fun m _=>qdz m e r) (fun m n=> ?_) (Ev.when0 hw)
 simp only[he,Bool.and_false];rfl
theorem Ev.unary {o:Nat} {ts:List PTok} {x:PR PExpr} (h:Ev (fun m n=>qd2 m (pE n) (o+1) ts) x) (hf:noPre ts) (ho:o<100):Ev (fun _ n=>pE n o 0 ts) x:=
 Ev.un ho (Ev.congr (fun m n=>hf m (pE n) (o+1)) h)
theorem Back.unary {k:PExpr} (hb:Back k) (hf:Fst k) {o:Nat} {r:List PTok} (h:o+1+2*nd k≤102) (ho:o<100) (hs:stopU r):Ev (fun _ n=>pE n o 0 (toks k.words++r)) (.ok k r):=
 Ev.unary (Ev.sampled (hb (o+1) r h hs.1) hs.2.1 hs.2.2) (hf r) ho
end Go.Ab
