/- Readings of expressions. -/
import Derived.Test.YtlfollkhlephmaaGreatDoorAbEqs
import Derived.ChangeShapes
import Derived.ChangeArms
import GoSem.ClaimChange
set_option linter.unusedSimpArgs false
set_option linter.unusedVariables false
set_option maxRecDepth 100000
set_option maxHeartbeats 4000000
open List renaming getElem?_eq_getElem→wa,getElem?_eq_some_iff→wb,getElem?_map→wc,getElem_of_mem→wd,length_map→wg,mem_map→wi
open Option renaming getD_some→we
open Nat renaming add_assoc→wh,le_refl→wj
namespace Go.Ab
def S0 (w:World) (F:Nat→Option Obj):Sh:={ M:=fun a=>if a.spot=none then w.cell? a else none,ρ:=fun _=>none,τ:=fun _=>none,F }
theorem S0_wr {P:Program} [Tabs P] {w:World} {F:Nat→Option Obj} (hF:∀x o,F x=some o→w.heap[x]? =some o) (hok:Tabs.ok P F):WR P (S0 w F) [] w where
 imm a v ha:=by
  simp only[S0]at ha
  split at ha
  ·exact⟨ha,‹_›⟩
  ·cases ha
 blk b x h:=by simp at h
 ρdom b r h:=by cases h
 τdom b x h:=by cases h
 injρ b b' r h:=by cases h
 injτ b b' r c c' l l' h:=by cases h
 apart b b' r c l h:=by cases h
 frz x o h:=⟨hF x o h,fun b h=>(by cases h),fun t c l h=>(by cases h)⟩
 laid:=hok
structure Bulk {H:Type} (B:DataW H→Nat) (BA:List (DataW H)→Nat):Prop where
 str:∀s,B (.lit (.string s))=s.length+1
 lit:∀l,1≤B (.lit l)
 nil:B .nil=1
 slice:∀es sp,B (.slice es sp)=BA es+BA sp+1
 agg:∀ps,B (.agg ps)=BA ps+1
 nilA:BA []=0
 consA:∀d r,BA (d::r)=B d+BA r
section
variable {H:Type} (enc:TypeId×Value→H) (P:Program) (w:World) (F:Nat→Option Obj) (B:DataW H→Nat)
def Tr (fuel:Nat) (t:TypeId) (cs:List Value) (d:DataW H):Prop:=∃pl,DataW.trod enc P w 0 (fun _=>true) true fuel t cs=some (d,pl)
def RdN (n:Nat) (t:TypeId) {X:Type} (cells:X→List AVal) (ok:X→Prop) (bulk:X→Nat):Prop:=
 ∀fuel,fuel≤n→∀cs d,Tr enc P w fuel t cs d→∃x,VRl (S0 w F) (cells x) cs∧ok x∧bulk x≤B d
variable {enc P w F B}
theorem RdN.mono {n m:Nat} {t:TypeId} {X:Type} {cells:X→List AVal} {ok:X→Prop} {bulk:X→Nat} (h:RdN enc P w F B n t cells ok bulk) (hm:m≤n):RdN enc P w F B m t cells ok bulk:=
 fun fuel hf=>h fuel (by omega)
theorem rd_int {BA:List (DataW H)→Nat} (hB:Bulk B BA) (n:Nat) {t:TypeId} {k:IntKind} (hu:P.underlying t=some (.int k)):RdN enc P w F B n t (fun z:Int=>[.int k z]) (fun z=>k.min≤z∧z≤k.max) (fun _=>1):=by
 intro fuel hf cs d ⟨pl,h⟩
 obtain⟨z,rfl,e,hw⟩:=DataW.trod_int hu h
 cases e
 exact⟨z,.cons (.int _ _) (.nil _),by simpa[Lit.wf]using hw,hB.lit _⟩
def qb6 {X:Type} (f:X→Nat):List X→Nat
 |[]=>0
 |x::r=>f x+qb6 f r
theorem qj3 {X Y:Type} (p:Nat→X→Y→Prop):∀(l:List Y) (k:Nat),(∀(i:Nat) y,l[i]? =some y→∃x,p (k+i) x y)→∃r:List X,r.length=l.length∧∀(i:Nat) x y,r[i]? =some x→l[i]? =some y→p (k+i) x y
 |[],_,_=>⟨[],rfl,fun i x y h=>by simp at h⟩
 |a::l,k,h=>by
  obtain⟨x,hx⟩:=h 0 a rfl
  obtain⟨r,hl,hr⟩:=qj3 p l (k+1) (fun i y hy=>by
   have:=h (i+1) y hy
   rw[show k+(i+1)=k+1+i by omega]at this
   exact this)
  refine⟨x::r,by simp[hl],fun i u v hu hv=> ?_⟩
  cases i with
  |zero=>simp at hu hv;subst hu hv;exact hx
  |succ i=>
   have:=hr i u v (by simpa using hu) (by simpa using hv)
   rw[show k+(i+1)=k+1+i by omega]
   exact this
theorem qmi {BA:List (DataW H)→Nat} (hB:Bulk B BA) {X:Type} (bulk:X→Nat):∀(r:List X) (l:List (DataW H)),r.length=l.length→(∀(i:Nat) x y,r[i]? =some x→l[i]? =some y→bulk x≤B y)→qb6 bulk r≤BA l
 |[],[],_,_=>by rw[hB.nilA];exact wj _
 |x::r,y::l,hl,h=>by
  rw[hB.consA]
  have h1:=h 0 x y rfl rfl
  have h2:=qmi hB bulk r l (by simpa using hl) (fun i u v hu hv=>h (i+1) u v (by simpa using hu) (by simpa using hv))
  simp only[qb6]
  omega
 |[],_::_,hl,_=>by simp at hl
 |_::_,[],hl,_=>by simp at hl
theorem qmj {a:Addr} {v:Value} (h:w.cell? a=some v):w.cell? ⟨a.block,a.off+0,none⟩=some v:=by
 unfold World.cell? at h ⊢
 simp only[Nat.add_zero]
 cases hb:w.heap[a.block]? with
 |none=>rw[hb]at h;cases h
 |some o=>
  rw[hb]at h
  cases o with
  |cells c t f=>
   simp only at h ⊢
   split at h
   ·cases h
   ·simpa using h
  |_=>cases h
theorem rd_slice {BA:List (DataW H)→Nat} (hB:Bulk B BA) {n:Nat} {t e sz:TypeId} {X:Type} {cells:X→List AVal} {ok:X→Prop} {bulk:X→Nat} (hu:P.underlying t=some (.slice e)) (hc:P.cellsOf e=sz) (hsz:0<sz)
 (hp:∀x,(cells x).all qaq=true) (hr:RdN enc P w F B n e cells ok bulk):RdN enc P w F B (n+1) t (fun l:List X=>[.slice (l.map cells) .free]) (fun l=>∀x∈l,ok x) (fun l=>qb6 bulk l+1):=by
 intro fuel hf cs d ⟨pl,h⟩
 rcases DataW.trod_slice hu h with⟨rfl,e1⟩|⟨a,len,cap,elems,rest,m,rfl,rfl,e1,hb,hlc,hcm,hel,hat,_⟩
 ·cases e1
  exact⟨[],.cons (.snil _ (.inl rfl)) (.nil _),by simp,by rw[hB.nil];exact wj _⟩
 ·simp only[Prod.mk.injEq]at e1
  obtain⟨rfl,_⟩:=e1
  have hone:∀(i:Nat) y,elems[i]? =some y→∃x,∃vs,w.cells? 0 (a.add (i*sz)) sz=some vs∧VRl (S0 w F) (cells x) vs∧ok x∧bulk x≤B y.1:=by
   intro i y hy
   have hi:i<len:=by rw[←hel];exact(wb.1 hy).1
   have:=hat i hi
   rw[hc,hy]at this
   cases hvs:w.cells? 0 (a.add (i*sz)) sz with
   |none=>rw[hvs]at this;cases this
   |some vs=>
    rw[hvs]at this
    obtain⟨x,h1,h2,h3⟩:=hr m (by omega) vs y.1 ⟨y.2,this⟩
    exact⟨x,vs,rfl,h1,h2,h3⟩
  obtain⟨r,hl,hrr⟩:=qj3 (fun i x y=>∃vs,w.cells? 0 (a.add (i*sz)) sz=some vs∧VRl (S0 w F) (cells x) vs∧ok x∧bulk x≤B y.1) elems 0 (fun i y hy=>by simpa using hone i y hy)
  simp only[Nat.zero_add]at hrr
  have hget:∀(i:Nat) x,r[i]? =some x→∃y vs,elems[i]? =some y∧w.cells? 0 (a.add (i*sz)) sz=some vs∧VRl (S0 w F) (cells x) vs∧ok x∧bulk x≤B y.1:=by
   intro i x hx
   have hi:i<elems.length:=by rw[←hl];exact(wb.1 hx).1
   obtain⟨vs,h1,h2⟩:=hrr i x _ hx (wa hi)
   exact⟨_,vs,wa hi,h1,h2⟩
  have hlen:∀(i:Nat) x,r[i]? =some x→(cells x).length=sz:=by
   intro i x hx
   obtain⟨y,vs,_,h1,h2,_⟩:=hget i x hx
   rw[h2.1]
   exact(World.cells?_some h1).2.1
  refine⟨r,.cons (.slice _ .free a len cap sz (fun k=>(w.cell? ⟨a.block,a.off+k,none⟩).getD (.tuple #[])) (by rw[wg,hl,hel]) hlc hcm ?_ ?_ ?_ ?_ ?_ trivial) (.nil _),?_,?_⟩
  ·intro hne
   cases r with
   |nil=>simp at hne
   |cons x r=>
    obtain⟨y,vs,_,h1,h2,_⟩:=hget 0 x rfl
    have h3:=(World.cells?_some h1).2.2 0 hsz
    have hsp:(a.add (0*sz)).add 0=a:=by simp[Addr.add]
    rw[hsp]at h3
    cases hs:a.spot with
    |none=>rfl
    |some q=>
     exfalso
     have hv:∃v,vs[0]? =some v:=⟨vs[0]'(by rw[(World.cells?_some h1).2.1];exact hsz),wa _⟩
     obtain⟨v,hv⟩:=hv
     rw[hv]at h3
     unfold World.cell? at h3
     split at h3
     ·simp[hs]at h3
     ·cases h3
  ·intro c hcc
   obtain⟨x,hx,rfl⟩:=wi.1 hcc
   obtain⟨i,hi,rfl⟩:=wd hx
   exact hlen i _ (wa hi)
  ·intro i c j u hi hj
   rw[wc]at hi
   cases hx:r[i]? with
   |none=>rw[hx]at hi;cases hi
   |some x=>
    rw[hx]at hi;cases hi
    obtain⟨y,vs,_,h1,h2,_⟩:=hget i x hx
    have hj':j<sz:=by rw[←hlen i x hx];exact(wb.1 hj).1
    have h3:=(World.cells?_some h1).2.2 j hj'
    obtain⟨v,hv,_⟩:=h2.get hj
    rw[hv]at h3
    have ha:(a.add (i*sz)).add j=⟨a.block,a.off+(i*sz+j),none⟩∨((a.add (i*sz)).add j=a∧i*sz+j=0):=by
     unfold Addr.add
     by_cases g1:i*sz=0<;>by_cases g2:j=0<;>simp[g1,g2,wh]
    have h4:w.cell? ⟨a.block,a.off+(i*sz+j),none⟩=some v:=by
     rcases ha with ha|⟨ha,h0⟩
     ·rw[ha]at h3;exact h3
     ·rw[ha]at h3
      rw[h0]
      exact qmj h3
    simp only[S0,if_true,h4,we]
  ·intro c hcc u hu
   obtain⟨x,hx,rfl⟩:=wi.1 hcc
   exact List.all_eq_true.1 (hp x) u hu
  ·intro i c j u hi hj
   rw[wc]at hi
   cases hx:r[i]? with
   |none=>rw[hx]at hi;cases hi
   |some x=>
    rw[hx]at hi;cases hi
    obtain⟨y,vs,_,h1,h2,_⟩:=hget i x hx
    have hj':j<sz:=by rw[←hlen i x hx];exact(wb.1 hj).1
    have h3:=(World.cells?_some h1).2.2 j hj'
    obtain⟨v,hv,hvr⟩:=h2.get hj
    rw[hv]at h3
    have ha:(a.add (i*sz)).add j=⟨a.block,a.off+(i*sz+j),none⟩∨((a.add (i*sz)).add j=a∧i*sz+j=0):=by
     unfold Addr.add
     by_cases g1:i*sz=0<;>by_cases g2:j=0<;>simp[g1,g2,wh]
    have h4:w.cell? ⟨a.block,a.off+(i*sz+j),none⟩=some v:=by
     rcases ha with ha|⟨ha,h0⟩
     ·rw[ha]at h3;exact h3
     ·rw[ha]at h3
      rw[h0]
      exact qmj h3
    simp only[h4,we]
    exact hvr
  ·intro x hx
   obtain⟨i,hi,rfl⟩:=wd hx
   obtain⟨y,vs,_,_,_,h3,_⟩:=hget i _ (wa hi)
   exact h3
  ·rw[hB.slice]
   have:=qmi hB bulk r (elems.map (·.1)) (by rw[wg,hl]) (fun i x y hx hy=>by
    rw[wc]at hy
    obtain⟨y',vs,h1,_,_,_,h3⟩:=hget i x hx
    rw[h1]at hy;cases hy;exact h3)
   show qb6 bulk r+1≤_
   omega
end
end Go.Ab
namespace Go.Ab
mutual
def PExpr.bulk:PExpr→Nat
 | .mk _ name _ cons kids=>name.length+qb6 (fun s:Str=>s.length+1) cons+PExpr.bulkL kids+6
def PExpr.bulkL:List PExpr→Nat
 |[]=>0
 |e::r=>e.bulk+PExpr.bulkL r
end
section
variable {H:Type} {enc:TypeId×Value→H} {P:Program} {w:World} {F:Nat→Option Obj} {B:DataW H→Nat} {BA:List (DataW H)→Nat}
end
end Go.Ab
