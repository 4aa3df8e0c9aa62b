/- Readings of expressions. -/
import Derived.Test.YtngklkmeknmloaaGreatDoorAbEqs
import Derived.ChangeShapes
import Derived.ChangeArms
import GoSem.ClaimChange
set_option linter.unusedSimpArgs false
set_option linter.unusedVariables false
set_option maxRecDepth 100000
set_option maxHeartbeats 4000000
open List renaming getElem?_eq_getElem→wa,getElem?_eq_some_iff→wb,getElem?_map→wd,getElem_of_mem→we,length_map→wh,mem_map→wj
open Nat renaming le_refl→wc,add_assoc→wi
open Option renaming getD_some→wg
namespace Go.Ab
def S0 (w:World) (F:Nat→Option Obj):Sh:={ M:=fun a=>if a.spot=none then w.cell? a else none,ρ:=fun _=>none,τ:=fun _=>none,F }
theorem S0_wr {P:Program} [Tabs P] {w:World} {F:Nat→Option Obj} (hF:∀x o,F x=some o→w.heap[x]? =some o) (hok:Tabs.ok P F):WR P (S0 w F) [] w where
 imm a v ha:=by
  simp only[S0]at ha
  split at ha
  ·exact⟨ha,‹_›⟩
  ·cases ha
 blk b x h:=by simp at h
 ρdom b r h:=by cases h
 τdom b x h:=by cases h
 injρ b b' r h:=by cases h
 injτ b b' r c c' l l' h:=by cases h
 apart b b' r c l h:=by cases h
 frz x o h:=⟨hF x o h,fun b h=>(by cases h),fun t c l h=>(by cases h)⟩
 laid:=hok
structure Bulk {H:Type} (B:DataW H→Nat) (BA:List (DataW H)→Nat):Prop where
 str:∀s,B (.lit (.string s))=s.length+1
 lit:∀l,1≤B (.lit l)
 nil:B .nil=1
 slice:∀es sp,B (.slice es sp)=BA es+BA sp+1
 agg:∀ps,B (.agg ps)=BA ps+1
 nilA:BA []=0
 consA:∀d r,BA (d::r)=B d+BA r
section
variable {H:Type} (enc:TypeId×Value→H) (P:Program) (w:World) (F:Nat→Option Obj) (B:DataW H→Nat)
def Tr (fuel:Nat) (t:TypeId) (cs:List Value) (d:DataW H):Prop:=∃pl,DataW.trod enc P w 0 (fun _=>true) true fuel t cs=some (d,pl)
def RdN (n:Nat) (t:TypeId) {X:Type} (cells:X→List AVal) (ok:X→Prop) (bulk:X→Nat):Prop:=
 ∀fuel,fuel≤n→∀cs d,Tr enc P w fuel t cs d→∃x,VRl (S0 w F) (cells x) cs∧ok x∧bulk x≤B d
def qgj (fuel:Nat) (cs:List Value):List (TypeId×Nat)→List (DataW H)→Prop
 |[],[]=>True
 |f::fs,d::ds=>Tr enc P w fuel f.1 ((cs.drop f.2).take (P.cellsOf f.1)) d∧qgj fuel cs fs ds
 |_,_=>False
def flds (t:TypeId):Option (List (TypeId×Nat)):=match P.underlying t with
 |some (.struct fs)=>some (fs.toList.map fun f=>(f.type,f.offset))
 |_=>none
variable {enc P w F B}
theorem rd_zero {t:TypeId} {X:Type} {cells:X→List AVal} {ok:X→Prop} {bulk:X→Nat}:RdN enc P w F B 0 t cells ok bulk:=by
 intro fuel hf cs d ⟨pl,h⟩
 have:fuel=0:=by omega
 subst this
 simp[DataW.trod]at h
theorem RdN.mono {n m:Nat} {t:TypeId} {X:Type} {cells:X→List AVal} {ok:X→Prop} {bulk:X→Nat} (h:RdN enc P w F B n t cells ok bulk) (hm:m≤n):RdN enc P w F B m t cells ok bulk:=
 fun fuel hf=>h fuel (by omega)
theorem rd_int {BA:List (DataW H)→Nat} (hB:Bulk B BA) (n:Nat) {t:TypeId} {k:IntKind} (hu:P.underlying t=some (.int k)):RdN enc P w F B n t (fun z:Int=>[.int k z]) (fun z=>k.min≤z∧z≤k.max) (fun _=>1):=by
 intro fuel hf cs d ⟨pl,h⟩
 obtain⟨z,rfl,e,hw⟩:=DataW.trod_int hu h
 cases e
 exact⟨z,.cons (.int _ _) (.nil _),by simpa[Lit.wf]using hw,hB.lit _⟩
theorem qnu {BA:List (DataW H)→Nat} (hB:Bulk B BA) (n:Nat) {t:TypeId} (hu:P.underlying t=some .string):RdN enc P w F B n t (fun s:List UInt8=>[.str s]) (fun _=>True) (fun s=>s.length+1):=by
 intro fuel hf cs d ⟨pl,h⟩
 obtain⟨s,rfl,e,hw⟩:=DataW.trod_string hu h
 cases e
 exact⟨_,.cons (.str _ _ rfl) (.nil _),trivial,by rw[hB.str];exact wc _⟩
def qbh {X:Type} (f:X→Nat):List X→Nat
 |[]=>0
 |x::r=>f x+qbh f r
theorem ql7 {X Y:Type} (p:Nat→X→Y→Prop):∀(l:List Y) (k:Nat),(∀(i:Nat) y,l[i]? =some y→∃x,p (k+i) x y)→∃r:List X,r.length=l.length∧∀(i:Nat) x y,r[i]? =some x→l[i]? =some y→p (k+i) x y
 |[],_,_=>⟨[],rfl,fun i x y h=>by simp at h⟩
 |a::l,k,h=>by
  obtain⟨x,hx⟩:=h 0 a rfl
  obtain⟨r,hl,hr⟩:=ql7 p l (k+1) (fun i y hy=>by
   have:=h (i+1) y hy
   rw[show k+(i+1)=k+1+i by omega]at this
   exact this)
  refine⟨x::r,by simp[hl],fun i u v hu hv=> ?_⟩
  cases i with
  |zero=>simp at hu hv;subst hu hv;exact hx
  |succ i=>
   have:=hr i u v (by simpa using hu) (by simpa using hv)
   rw[show k+(i+1)=k+1+i by omega]
   exact this
theorem qoy {BA:List (DataW H)→Nat} (hB:Bulk B BA) {X:Type} (bulk:X→Nat):∀(r:List X) (l:List (DataW H)),r.length=l.length→(∀(i:Nat) x y,r[i]? =some x→l[i]? =some y→bulk x≤B y)→qbh bulk r≤BA l
 |[],[],_,_=>by rw[hB.nilA];exact wc _
 |x::r,y::l,hl,h=>by
  rw[hB.consA]
  have h1:=h 0 x y rfl rfl
  have h2:=qoy hB bulk r l (by simpa using hl) (fun i u v hu hv=>h (i+1) u v (by simpa using hu) (by simpa using hv))
  simp only[qbh]
  omega
 |[],_::_,hl,_=>by simp at hl
 |_::_,[],hl,_=>by simp at hl
theorem qoz {a:Addr} {v:Value} (h:w.cell? a=some v):w.cell? ⟨a.block,a.off+0,none⟩=some v:=by
 unfold World.cell? at h ⊢
 simp only[Nat.add_zero]
 cases hb:w.heap[a.block]? with
 |none=>rw[hb]at h;cases h
 |some o=>
  rw[hb]at h
  cases o with
  |cells c t f=>
   simp only at h ⊢
   split at h
   ·cases h
   ·simpa using h
  |_=>cases h
theorem qqu {BA:List (DataW H)→Nat} (hB:Bulk B BA) {n:Nat} {t e sz:TypeId} {X:Type} {cells:X→List AVal} {ok:X→Prop} {bulk:X→Nat} (hu:P.underlying t=some (.slice e)) (hc:P.cellsOf e=sz) (hsz:0<sz)
 (hp:∀x,(cells x).all qax=true) (hr:RdN enc P w F B n e cells ok bulk):RdN enc P w F B (n+1) t (fun l:List X=>[.slice (l.map cells) .free]) (fun l=>∀x∈l,ok x) (fun l=>qbh bulk l+1):=by
 intro fuel hf cs d ⟨pl,h⟩
 rcases DataW.trod_slice hu h with⟨rfl,e1⟩|⟨a,len,cap,elems,rest,m,rfl,rfl,e1,hb,hlc,hcm,hel,hat,_⟩
 ·cases e1
  exact⟨[],.cons (.snil _ (.inl rfl)) (.nil _),by simp,by rw[hB.nil];exact wc _⟩
 ·simp only[Prod.mk.injEq]at e1
  obtain⟨rfl,_⟩:=e1
  have hone:∀(i:Nat) y,elems[i]? =some y→∃x,∃vs,w.cells? 0 (a.add (i*sz)) sz=some vs∧VRl (S0 w F) (cells x) vs∧ok x∧bulk x≤B y.1:=by
   intro i y hy
   have hi:i<len:=by rw[←hel];exact(wb.1 hy).1
   have:=hat i hi
   rw[hc,hy]at this
   cases hvs:w.cells? 0 (a.add (i*sz)) sz with
   |none=>rw[hvs]at this;cases this
   |some vs=>
    rw[hvs]at this
    obtain⟨x,h1,h2,h3⟩:=hr m (by omega) vs y.1 ⟨y.2,this⟩
    exact⟨x,vs,rfl,h1,h2,h3⟩
  obtain⟨r,hl,hrr⟩:=ql7 (fun i x y=>∃vs,w.cells? 0 (a.add (i*sz)) sz=some vs∧VRl (S0 w F) (cells x) vs∧ok x∧bulk x≤B y.1) elems 0 (fun i y hy=>by simpa using hone i y hy)
  simp only[Nat.zero_add]at hrr
  have hget:∀(i:Nat) x,r[i]? =some x→∃y vs,elems[i]? =some y∧w.cells? 0 (a.add (i*sz)) sz=some vs∧VRl (S0 w F) (cells x) vs∧ok x∧bulk x≤B y.1:=by
   intro i x hx
   have hi:i<elems.length:=by rw[←hl];exact(wb.1 hx).1
   obtain⟨vs,h1,h2⟩:=hrr i x _ hx (wa hi)
   exact⟨_,vs,wa hi,h1,h2⟩
  have hlen:∀(i:Nat) x,r[i]? =some x→(cells x).length=sz:=by
   intro i x hx
   obtain⟨y,vs,_,h1,h2,_⟩:=hget i x hx
   rw[h2.1]
   exact(World.cells?_some h1).2.1
  refine⟨r,.cons (.slice _ .free a len cap sz (fun k=>(w.cell? ⟨a.block,a.off+k,none⟩).getD (.tuple #[])) (by rw[wh,hl,hel]) hlc hcm ?_ ?_ ?_ ?_ ?_ trivial) (.nil _),?_,?_⟩
  ·intro hne
   cases r with
   |nil=>simp at hne
   |cons x r=>
    obtain⟨y,vs,_,h1,h2,_⟩:=hget 0 x rfl
    have h3:=(World.cells?_some h1).2.2 0 hsz
    have hsp:(a.add (0*sz)).add 0=a:=by simp[Addr.add]
    rw[hsp]at h3
    cases hs:a.spot with
    |none=>rfl
    |some q=>
     exfalso
     have hv:∃v,vs[0]? =some v:=⟨vs[0]'(by rw[(World.cells?_some h1).2.1];exact hsz),wa _⟩
     obtain⟨v,hv⟩:=hv
     rw[hv]at h3
     unfold World.cell? at h3
     split at h3
     ·simp[hs]at h3
     ·cases h3
  ·intro c hcc
   obtain⟨x,hx,rfl⟩:=wj.1 hcc
   obtain⟨i,hi,rfl⟩:=we hx
   exact hlen i _ (wa hi)
  ·intro i c j u hi hj
   rw[wd]at hi
   cases hx:r[i]? with
   |none=>rw[hx]at hi;cases hi
   |some x=>
    rw[hx]at hi;cases hi
    obtain⟨y,vs,_,h1,h2,_⟩:=hget i x hx
    have hj':j<sz:=by rw[←hlen i x hx];exact(wb.1 hj).1
    have h3:=(World.cells?_some h1).2.2 j hj'
    obtain⟨v,hv,_⟩:=h2.get hj
    rw[hv]at h3
    have ha:(a.add (i*sz)).add j=⟨a.block,a.off+(i*sz+j),none⟩∨((a.add (i*sz)).add j=a∧i*sz+j=0):=by
     unfold Addr.add
     by_cases g1:i*sz=0<;>by_cases g2:j=0<;>simp[g1,g2,wi]
    have h4:w.cell? ⟨a.block,a.off+(i*sz+j),none⟩=some v:=by
     rcases ha with ha|⟨ha,h0⟩
     ·rw[ha]at h3;exact h3
     ·rw[ha]at h3
      rw[h0]
      exact qoz h3
    simp only[S0,if_true,h4,wg]
  ·intro c hcc u hu
   obtain⟨x,hx,rfl⟩:=wj.1 hcc
   exact List.all_eq_true.1 (hp x) u hu
  ·intro i c j u hi hj
   rw[wd]at hi
   cases hx:r[i]? with
   |none=>rw[hx]at hi;cases hi
   |some x=>
    rw[hx]at hi;cases hi
    obtain⟨y,vs,_,h1,h2,_⟩:=hget i x hx
    have hj':j<sz:=by rw[←hlen i x hx];exact(wb.1 hj).1
    have h3:=(World.cells?_some h1).2.2 j hj'
    obtain⟨v,hv,hvr⟩:=h2.get hj
    rw[hv]at h3
    have ha:(a.add (i*sz)).add j=⟨a.block,a.off+(i*sz+j),none⟩∨((a.add (i*sz)).add j=a∧i*sz+j=0):=by
     unfold Addr.add
     by_cases g1:i*sz=0<;>by_cases g2:j=0<;>simp[g1,g2,wi]
    have h4:w.cell? ⟨a.block,a.off+(i*sz+j),none⟩=some v:=by
     rcases ha with ha|⟨ha,h0⟩
     ·rw[ha]at h3;exact h3
     ·rw[ha]at h3
      rw[h0]
      exact qoz h3
    simp only[h4,wg]
    exact hvr
  ·intro x hx
   obtain⟨i,hi,rfl⟩:=we hx
   obtain⟨y,vs,_,_,_,h3,_⟩:=hget i _ (wa hi)
   exact h3
  ·rw[hB.slice]
   have:=qoy hB bulk r (elems.map (·.1)) (by rw[wh,hl]) (fun i x y hx hy=>by
    rw[wd]at hy
    obtain⟨y',vs,h1,_,_,_,h3⟩:=hget i x hx
    rw[h1]at hy;cases hy;exact h3)
   show qbh bulk r+1≤_
   omega
theorem rd_fields {fuel:Nat} {cs:List Value} {xs:List (DataW H×List MemPlace)} (fs:List Field):(∀(i:Nat) (f:Field),fs[i]? =some f→DataW.trod enc P w 0 (fun _=>true) true fuel f.type ((cs.drop f.offset).take (P.cellsOf f.type))=xs[i]?)→
 xs.length=fs.length→qgj enc P w fuel cs (fs.map fun f=>(f.type,f.offset)) (xs.map (·.1)):=by
 induction fs generalizing xs with
 |nil=>intro h hl;cases xs with
  |nil=>trivial
  |cons=>simp at hl
 |cons f fs ih=>
  intro h hl
  cases xs with
  |nil=>simp at hl
  |cons x xs=>
   refine⟨⟨x.2,?_⟩,ih (fun i f hf=> ?_) (by simpa using hl)⟩
   ·exact h 0 f rfl
   ·have:=h (i+1) f (by simpa using hf)
    simpa using this
theorem qtm {fuel:Nat} {t:TypeId} {cs:List Value} {d:DataW H} {fs:List (TypeId×Nat)} (hu:flds P t=some fs) (h:Tr enc P w fuel t cs d):
 ∃m ds,fuel=m+1∧d= .agg ds∧cs.length=P.cellsOf t∧qgj enc P w m cs fs ds:=by
 obtain⟨pl,h⟩:=h
 unfold flds at hu
 split at hu
 ·rename_i fs0 hu0
  cases hu
  obtain⟨xs,m,rfl,e,hl,hx,hf⟩:=DataW.trod_struct hu0 h
  cases e
  exact⟨m,_,rfl,rfl,hl,rd_fields _ (fun i f hi=>hf i f (by simpa using hi)) (by simpa using hx)⟩
 ·cases hu
theorem qee {fuel:Nat} {cs:List Value} {t off:Nat} {fs:List (TypeId×Nat)} {ds:List (DataW H)} (h:qgj enc P w fuel cs ((t,off)::fs) ds):
 ∃d r,ds=d::r∧Tr enc P w fuel t ((cs.drop off).take (P.cellsOf t)) d∧qgj enc P w fuel cs fs r:=by
 cases ds with
 |nil=>cases h
 |cons d r=>exact⟨d,r,rfl,h.1,h.2⟩
theorem qtn {fuel:Nat} {cs:List Value} {ds:List (DataW H)} (h:qgj enc P w fuel cs [] ds):ds=[]:=by
 cases ds with
 |nil=>rfl
 |cons d r=>cases h
theorem qef {S:Sh} {a b:List AVal} {cs:List Value} {off n m:Nat} (ha:VRl S a ((cs.drop off).take n)) (hb:VRl S b (cs.drop m)) (hm:m=off+n):VRl S (a++b) (cs.drop off):=by
 subst hm
 have:cs.drop off=(cs.drop off).take n++cs.drop (off+n):=by rw[←List.drop_drop,List.take_append_drop]
 rw[this]
 exact ha.append hb
theorem cells_end {S:Sh} {cs:List Value} {n:Nat} (h:cs.length=n):VRl S [] (cs.drop n):=by
 rw[←h,List.drop_length];exact .nil S
end
end Go.Ab
namespace Go.Ab
mutual
def PExpr.bulk:PExpr→Nat
 | .mk _ name _ cons kids=>name.length+qbh (fun s:Str=>s.length+1) cons+PExpr.bulkL kids+6
def PExpr.bulkL:List PExpr→Nat
 |[]=>0
 |e::r=>e.bulk+PExpr.bulkL r
end
theorem qo0 (l:List PExpr):PExpr.bulkL l=qbh PExpr.bulk l:=by
 induction l with
 |nil=>simp[PExpr.bulkL,qbh]
 |cons e r ih=>simp[PExpr.bulkL,qbh,ih]
def qft (n:Int):Prop:= -9223372036854775808≤n∧n≤9223372036854775807
inductive PExpr.Rng:PExpr→Prop where
 |mk (op:Int) (name:Str) (n:Int) (cons:List Str) (kids:List PExpr):qft op→qft n→(∀k∈kids,k.Rng)→PExpr.Rng (.mk op name n cons kids)
theorem qc9 {X:Type} (f:X→Nat) (h:∀x,1≤f x) (l:List X):l.length≤qbh f l:=by
 induction l with
 |nil=>simp
 |cons x r ih=>have:=h x;simp only[List.length_cons,qbh];omega
theorem qda {X:Type} (f:X→Nat) (l:List X) (x:X) (h:x∈l):f x≤qbh f l:=by
 induction l with
 |nil=>cases h
 |cons y r ih=>
  simp only[qbh]
  rcases List.mem_cons.1 h with rfl|h
  ·omega
  ·have:=ih h;omega
theorem qd6 (l:List Str) {n:Nat} (h:qbh (fun s:Str=>s.length+1) l≤n) (hn:n≤qae):qcy l:=by
 refine⟨?_,fun s hs=> ?_⟩
 ·have:=qc9 (fun s:Str=>s.length+1) (fun _=>by omega) l;omega
 ·have:=qda (fun s:Str=>s.length+1) l s hs;have h2:s.length+1≤qbh (fun s:Str=>s.length+1) l:=this;omega
theorem PExpr.small_of_bulk (e:PExpr):∀n,e.bulk≤n→n≤qae→e.Small:=by
 induction e using PExpr.induct with
 |h op name m cons kids ih=>
  intro n hn hl
  simp only[PExpr.bulk,qo0]at hn
  refine .mk _ _ _ _ _ (by omega) (qd6 cons (n:=n) (by omega) hl) ?_ (fun k hk=>ih k hk n ?_ hl)
  ·have:=qc9 PExpr.bulk (fun x=>by cases x;simp[PExpr.bulk]) kids;omega
  ·have:=qda PExpr.bulk kids k hk;omega
section
variable {H:Type} {enc:TypeId×Value→H} {P:Program} {w:World} {F:Nat→Option Obj} {B:DataW H→Nat} {BA:List (DataW H)→Nat}
theorem rd_strs (hB:Bulk B BA) (n:Nat) {t s:TypeId} (hu:P.underlying t=some (.slice s)) (hs:P.underlying s=some .string) (hc:P.cellsOf s=1):
 RdN enc P w F B n t (fun l:List Str=>[qah l]) (fun _=>True) (fun l=>qbh (fun s:Str=>s.length+1) l+1):=by
 intro fuel hf cs d h
 obtain⟨x,h1,_,h3⟩:=(qqu (n:=n) hB hu hc (Nat.one_pos) (fun x=>rfl) (qnu (enc:=enc) (w:=w) (F:=F) hB n hs)) fuel (Nat.le_succ_of_le hf) cs d h
 exact⟨x,h1,trivial,h3⟩
structure ExprTy (P:Program) (t:TypeId):Prop where
 of:∃ti ts tn tc te tk:TypeId,flds P t=some [(ti,0),(ts,1),(tn,2),(tc,3),(tk,4)]∧P.cellsOf t=5∧P.underlying ti=some (.int .i64)∧P.cellsOf ti=1∧P.underlying ts=some .string∧P.cellsOf ts=1∧
  P.underlying tn=some (.int .i64)∧P.cellsOf tn=1∧P.underlying tc=some (.slice te)∧P.cellsOf tc=1∧P.underlying te=some .string∧P.cellsOf te=1∧P.underlying tk=some (.slice t)∧P.cellsOf tk=1
theorem rd_expr (hB:Bulk B BA) {t:TypeId} (ty:ExprTy P t):∀n,RdN enc P w F B n t PExpr.cells PExpr.Rng PExpr.bulk:=by
 obtain⟨ti,ts,tn,tc,te,tk,hf,ht,hi,ci,hs,cs1,hn,cn,hc,cc,he,ce,hk,ck⟩:=ty.of
 intro n
 induction n with
 |zero=>exact rd_zero
 |succ n ih=>
  intro fuel hfu cs d h
  obtain⟨m,ds,rfl,rfl,hl,hfs⟩:=qtm hf h
  obtain⟨d0,ds,rfl,h0,hfs⟩:=qee hfs
  obtain⟨d1,ds,rfl,h1,hfs⟩:=qee hfs
  obtain⟨d2,ds,rfl,h2,hfs⟩:=qee hfs
  obtain⟨d3,ds,rfl,h3,hfs⟩:=qee hfs
  obtain⟨d4,ds,rfl,h4,hfs⟩:=qee hfs
  have:=qtn hfs
  subst this
  rw[ht]at hl
  obtain⟨op,v0,o0,b0⟩:=rd_int (enc:=enc) (w:=w) (F:=F) hB m hi m (wc _) _ _ h0
  obtain⟨name,v1,o1,b1⟩:=qnu (enc:=enc) (w:=w) (F:=F) hB m hs m (wc _) _ _ h1
  obtain⟨k,v2,o2,b2⟩:=rd_int (enc:=enc) (w:=w) (F:=F) hB m hn m (wc _) _ _ h2
  obtain⟨cons,v3,o3,b3⟩:=rd_strs (enc:=enc) (w:=w) (F:=F) hB m hc he ce m (wc _) _ _ h3
  obtain⟨kids,v4,o4,b4⟩:=qqu (n:=n) hB hk ht (by decide) (fun x=>x.ok.pure) ih m (Nat.le_of_lt (by omega)) _ _ h4
  rw[ci]at v0;rw[cs1]at v1;rw[cn]at v2;rw[cc]at v3;rw[ck]at v4
  refine⟨.mk op name k cons kids,?_,.mk _ _ _ _ _ o0 o2 o4,?_⟩
  ·rw[PExpr.cells_eq]
   exact qef v0 (qef v1 (qef v2 (qef v3 (qef v4 (cells_end hl) rfl) rfl) rfl) rfl) rfl
  ·simp only[PExpr.bulk,qo0,hB.agg,hB.consA,hB.nilA]
   simp only at b0 b1 b2 b3 b4
   omega
end
end Go.Ab
