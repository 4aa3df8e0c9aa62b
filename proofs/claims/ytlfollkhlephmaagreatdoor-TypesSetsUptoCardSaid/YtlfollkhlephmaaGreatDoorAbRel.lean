/- How the evaluator's values and heaps lie in the model's world. -/
import Derived.Test.YtlfollkhlephmaaGreatDoorAbEv
import Derived.Laws.World
import Derived.Laws.Sem
import Derived.Laws.AppendOwn
import Derived.Calls
import Derived.RowKit3
set_option linter.unusedSimpArgs false
set_option linter.unusedVariables false
set_option maxRecDepth 100000
set_option maxHeartbeats 4000000
open Array renaming getElem?_eq_some_iff→wa
open List renaming getElem?_eq_getElem→wb,getElem?_eq_some_iff→wc,getElem?_append_right→wd,getElem?_append_left→we
open Nat renaming le_refl→wg
namespace Go.Ab
class Tabs (P:Program) where
 ok:(Nat→Option Obj)→Prop
structure Sh where
 M:Addr→Option Value
 ρ:Nat→Option Nat
 τ:Nat→Option (Nat×Nat×Nat)
 F:Nat→Option Obj
def TkOk (S:Sh) (tk:Tk) (n cap:Nat) (ad:Addr):Prop:=
 match tk with
 | .free=>True
 | .zero=>True
 | .full=>cap=n
 | .own t=>∃r c l,S.τ t=some (r,c,l)∧n≤l∧0<n∧(n=l→ad=⟨r,0,none⟩∧cap=c)
def MpOk (S:Sh) (b n o:Nat) (a:Addr):Prop:=∃r c l,S.τ b=some (r,c,l)∧n≤l∧(n=l→a=⟨r,o,none⟩)
inductive VR (S:Sh):AVal→Value→Prop
 |undef:VR S .undef (.tuple #[])
 |bool (b:Bool):VR S (.bool b) (.bool b)
 |int (k:IntKind) (n:Int):VR S (.int k n) (.int k n)
 |str (s:ByteArray) (l:List UInt8) (h:s.data.toList=l):VR S (.str l) (.string s)
 |nilp:VR S .nilp (.pointer none)
 |ptr (b o r:Nat) (h:S.ρ b=some r):VR S (.ptr b o) (.pointer (some ⟨r,o,none⟩))
 |eptr (cs:List AVal) (o r o0:Nat) (vs:Nat→Value)
  (h1:∀(j:Nat) (a:AVal),cs[j]? =some a→S.M ⟨r,o0+j,none⟩=some (vs j))
  (hp:∀a∈cs,qaq a=true)
  (h2:∀(j:Nat) (a:AVal),cs[j]? =some a→VR S a (vs j)):VR S (.eptr cs o) (.pointer (some ⟨r,o0+o,none⟩))
 |slice (es:List (List AVal)) (tk:Tk) (ad:Addr) (n cap esz:Nat) (vs:Nat→Value)
  (hn:es.length=n) (hc:n≤cap) (hcm:cap≤maxLen) (hsp:es≠[]→ad.spot=none) (hsz:∀c∈es,c.length=esz)
  (h1:∀(i:Nat) (c:List AVal) (j:Nat) (a:AVal),es[i]? =some c→c[j]? =some a→S.M ⟨ad.block,ad.off+(i*esz+j),none⟩=some (vs (i*esz+j)))
  (hp:∀c∈es,∀a∈c,qaq a=true)
  (h2:∀(i:Nat) (c:List AVal) (j:Nat) (a:AVal),es[i]? =some c→c[j]? =some a→VR S a (vs (i*esz+j)))
  (ht:TkOk S tk n cap ad):VR S (.slice es tk) (.slice (some ad) n cap)
 |snil (tk:Tk) (h:tk= .free∨tk= .full):VR S (.slice [] tk) (.slice none 0 0)
 |ms (es:List (List AVal)) (b n m:Nat) (ad:Addr) (cap:Nat) (h:VR S (.slice es .free) (.slice (some ad) es.length cap)) (hn:es.length≤m) (hm:m≤n) (hc:n≤cap) (hcm:cap≤maxLen)
  (ht:TkOk S (.own b) n cap ad) (hsp:ad.spot=none):VR S (.ms es b n m) (.slice (some ad) m cap)
 |mptr (b o n r o':Nat) (h:MpOk S b n o ⟨r,o',none⟩):VR S (.mptr b o n) (.pointer (some ⟨r,o',none⟩))
 |mref (b r:Nat) (h:S.ρ b=some r):VR S (.mref b) (.map (some r))
 |nilm:VR S .nilm (.map none)
 |func (f:FuncId) (a b:List AVal) (x y:Array Value) (hx:a.length=x.size) (hy:b.length=y.size)
  (h1:∀(j:Nat) (u:AVal) (v:Value),a[j]? =some u→x[j]? =some v→VR S u v)
  (h2:∀(j:Nat) (u:AVal) (v:Value),b[j]? =some u→y[j]? =some v→VR S u v):VR S (.func f a b) (.func (.func f) x y)
 |nilf:VR S .nilf .nilFunc
 |iface (t:TypeId) (a:AVal) (v:Value) (h:VR S a v):VR S (.iface t a) (.iface t v)
 |nili:VR S .nili .nilIface
 |agg (a:List AVal) (x:Array Value) (hx:a.length=x.size)
  (h1:∀(j:Nat) (u:AVal) (v:Value),a[j]? =some u→x[j]? =some v→VR S u v):VR S (.agg a) (.agg x)
 |tuple (a:List AVal) (x:Array Value) (hx:a.length=x.size)
  (h1:∀(j:Nat) (u:AVal) (v:Value),a[j]? =some u→x[j]? =some v→VR S u v):VR S (.tuple a) (.tuple x)
def VRl (S:Sh) (a:List AVal) (x:List Value):Prop:=
 a.length=x.length∧∀(j:Nat) (u:AVal) (v:Value),a[j]? =some u→x[j]? =some v→VR S u v
theorem VRl.nil (S:Sh):VRl S [] []:=⟨rfl,fun _ _ _ h=>by simp at h⟩
theorem VRl.cons {S:Sh} {u:AVal} {v:Value} {a:List AVal} {x:List Value} (h:VR S u v) (t:VRl S a x):VRl S (u::a) (v::x):=by
 refine⟨by simp[t.1],fun j p q hp hq=> ?_⟩
 cases j with
 |zero=>simp at hp hq;subst hp;subst hq;exact h
 |succ j=>exact t.2 j p q (by simpa using hp) (by simpa using hq)
theorem VRl.head {S:Sh} {u:AVal} {v:Value} {a:List AVal} {x:List Value} (h:VRl S (u::a) (v::x)):VR S u v:=h.2 0 u v rfl rfl
theorem VRl.tail {S:Sh} {u:AVal} {v:Value} {a:List AVal} {x:List Value} (h:VRl S (u::a) (v::x)):VRl S a x:=
 ⟨by simpa using h.1,fun j p q hp hq=>h.2 (j+1) p q (by simpa using hp) (by simpa using hq)⟩
theorem VRl.inv_cons {S:Sh} {u:AVal} {a:List AVal} {x:List Value} (h:VRl S (u::a) x):∃v y,x=v::y∧VR S u v∧VRl S a y:=by
 cases x with
 |nil=>exact absurd h.1 (by simp)
 |cons v y=>exact⟨v,y,rfl,h.head,h.tail⟩
theorem VRl.inv_nil {S:Sh} {x:List Value} (h:VRl S [] x):x=[]:=by
 cases x with
 |nil=>rfl
 |cons v y=>exact absurd h.1 (by simp)
theorem VRl.get {S:Sh} {a:List AVal} {x:List Value} (h:VRl S a x) {j:Nat} {u:AVal} (hu:a[j]? =some u):∃v,x[j]? =some v∧VR S u v:=by
 have hj:j<a.length:=(wc.1 hu).1
 have hj':j<x.length:=h.1▸hj
 exact⟨x[j],wb hj',h.2 j u _ hu (wb hj')⟩
theorem VRl.append {S:Sh} {a b:List AVal} {x y:List Value} (h:VRl S a x) (k:VRl S b y):VRl S (a++b) (x++y):=by
 refine⟨by simp[h.1,k.1],fun j p q hp hq=> ?_⟩
 by_cases hj:j<a.length
 ·rw[we hj]at hp
  rw[we (h.1▸hj)]at hq
  exact h.2 j p q hp hq
 ·rw[wd (by omega)]at hp
  rw[wd (by have:=h.1;omega)]at hq
  exact k.2 _ p q hp (by rw[←h.1]at hq;exact hq)
theorem VRl.take {S:Sh} {a:List AVal} {x:List Value} (h:VRl S a x) (n:Nat):VRl S (a.take n) (x.take n):=by
 refine⟨by simp[h.1],fun j p q hp hq=> ?_⟩
 rw[List.getElem?_take]at hp hq
 split at hp
 ·rw[if_pos ‹_›]at hq;exact h.2 j p q hp hq
 ·cases hp
theorem VRl.drop {S:Sh} {a:List AVal} {x:List Value} (h:VRl S a x) (n:Nat):VRl S (a.drop n) (x.drop n):=by
 refine⟨by simp[h.1],fun j p q hp hq=> ?_⟩
 rw[List.getElem?_drop]at hp hq
 exact h.2 _ p q hp hq
theorem VRl.set {S:Sh} {a:List AVal} {x:List Value} (h:VRl S a x) (n:Nat) {u:AVal} {v:Value} (hv:VR S u v):VRl S (a.set n u) (x.set n v):=by
 refine⟨by simp[h.1],fun j p q hp hq=> ?_⟩
 rw[List.getElem?_set]at hp hq
 by_cases hj:n=j
 ·rw[if_pos hj]at hp hq
  split at hp
  ·rw[if_pos (by have:=h.1;omega)]at hq
   simp at hp hq;subst hp;subst hq;exact hv
  ·cases hp
 ·rw[if_neg hj]at hp hq
  exact h.2 j p q hp hq
theorem VRl.replicate (S:Sh) (n:Nat):VRl S (List.replicate n .undef) (List.replicate n (.tuple #[])):=by
 refine⟨by simp,fun j p q hp hq=> ?_⟩
 simp[List.getElem?_replicate]at hp hq
 rw[←hp.2,←hq.2]
 exact .undef
theorem VRl.mem {S:Sh} {a:List AVal} {x:List Value} (h:VRl S a x) {v:Value} (hv:v∈x):∃u∈a,VR S u v:=by
 obtain⟨j,hj,rfl⟩:=List.getElem_of_mem hv
 have hj':j<a.length:=h.1▸hj
 exact⟨a[j],List.getElem_mem hj',h.2 j _ _ (wb hj') (wb hj)⟩
theorem VR.agg' {S:Sh} {a:List AVal} {x:List Value} (h:VRl S a x):VR S (.agg a) (.agg x.toArray):=
 .agg a _ (by simp[h.1]) (fun j u v hu hv=>h.2 j u v hu (by simpa using hv))
theorem VR.tuple' {S:Sh} {a:List AVal} {x:List Value} (h:VRl S a x):VR S (.tuple a) (.tuple x.toArray):=
 .tuple a _ (by simp[h.1]) (fun j u v hu hv=>h.2 j u v hu (by simpa using hv))
theorem VR.func' {S:Sh} {f:FuncId} {a b:List AVal} {x y:List Value} (h:VRl S a x) (k:VRl S b y):VR S (.func f a b) (.func (.func f) x.toArray y.toArray):=
 .func f a b _ _ (by simp[h.1]) (by simp[k.1]) (fun j u v hu hv=>h.2 j u v hu (by simpa using hv)) (fun j u v hu hv=>k.2 j u v hu (by simpa using hv))
theorem VR.inv_agg {S:Sh} {a:List AVal} {v:Value} (h:VR S (.agg a) v):∃x:Array Value,v= .agg x∧VRl S a x.toList:=by
 cases h with
 |agg _ x hx h1=>exact⟨x,rfl,by simpa using hx,fun j u v hu hv=>h1 j u v hu (by simpa using hv)⟩
theorem VR.inv_tuple {S:Sh} {a:List AVal} {v:Value} (h:VR S (.tuple a) v):∃x:Array Value,v= .tuple x∧VRl S a x.toList:=by
 cases h with
 |tuple _ x hx h1=>exact⟨x,rfl,by simpa using hx,fun j u v hu hv=>h1 j u v hu (by simpa using hv)⟩
theorem VR.inv_func {S:Sh} {f:FuncId} {a b:List AVal} {v:Value} (h:VR S (.func f a b) v):∃x y:Array Value,v= .func (.func f) x y∧VRl S a x.toList∧VRl S b y.toList:=by
 cases h with
 |func _ _ _ x y hx hy h1 h2=>exact⟨x,y,rfl,⟨by simpa using hx,fun j u v hu hv=>h1 j u v hu (by simpa using hv)⟩,⟨by simpa using hy,fun j u v hu hv=>h2 j u v hu (by simpa using hv)⟩⟩
structure Ex (S:Sh) (N:Nat) (S':Sh):Prop where
 M:∀a v,S.M a=some v→S'.M a=some v
 ρ:∀b r,S.ρ b=some r→S'.ρ b=some r
 τ:∀t r c l,S.τ t=some (r,c,l)→∃r' c' l',S'.τ t=some (r',c',l')∧(l<l'∨(r'=r∧c'=c∧l'=l))
 newρ:∀b r,S'.ρ b=some r→S.ρ b=some r∨N≤r
 newτ:∀t r c l,S'.τ t=some (r,c,l)→(∃c0 l0,S.τ t=some (r,c0,l0))∨N≤r
 newM:∀a v,S'.M a=some v→S.M a=some v∨N≤a.block∨∃t c l,S.τ t=some (a.block,c,l)
 F:S'.F=S.F
theorem Ex.refl (S:Sh) (N:Nat):Ex S N S:=
 ⟨fun _ _ h=>h,fun _ _ h=>h,fun _ r c l h=>⟨r,c,l,h,.inr ⟨rfl,rfl,rfl⟩⟩,fun _ _ h=> .inl h,fun _ _ c l h=> .inl ⟨c,l,h⟩,fun _ _ h=> .inl h,rfl⟩
theorem Ex.trans {S S1 S2:Sh} {N N1:Nat} (h:Ex S N S1) (k:Ex S1 N1 S2) (hN:N≤N1):Ex S N S2 where
 M a v hv:=k.M a v (h.M a v hv)
 ρ b r hr:=k.ρ b r (h.ρ b r hr)
 τ t r c l hr:=by
  obtain⟨r1,c1,l1,h1,h2⟩:=h.τ t r c l hr
  obtain⟨r2,c2,l2,h3,h4⟩:=k.τ t r1 c1 l1 h1
  refine⟨r2,c2,l2,h3,?_⟩
  rcases h2 with h2|⟨rfl,rfl,rfl⟩
  ·rcases h4 with h4|⟨_,_,rfl⟩
   ·exact .inl (by omega)
   ·exact .inl h2
  ·exact h4
 newρ b r hr:=by
  rcases k.newρ b r hr with h1|h1
  ·exact h.newρ b r h1
  ·exact .inr (by omega)
 newτ t r c l hr:=by
  rcases k.newτ t r c l hr with⟨c0,l0,h1⟩|h1
  ·exact h.newτ t r c0 l0 h1
  ·exact .inr (by omega)
 newM a v ha:=by
  rcases k.newM a v ha with h1|h1|⟨t,c,l,h1⟩
  ·exact h.newM a v h1
  ·exact .inr (.inl (by omega))
  ·rcases h.newτ t a.block c l h1 with⟨c0,l0,h2⟩|h2
   ·exact .inr (.inr ⟨t,c0,l0,h2⟩)
   ·exact .inr (.inl h2)
 F:=k.F.trans h.F
theorem TkOk.ext {S S':Sh} {N:Nat} (h:Ex S N S') {tk:Tk} {n cap:Nat} {ad:Addr} (k:TkOk S tk n cap ad):TkOk S' tk n cap ad:=by
 cases tk with
 |free=>trivial
 |zero=>trivial
 |full=>exact k
 |own t=>
  obtain⟨r,c,l,h1,h2,h0,h3⟩:=k
  obtain⟨r',c',l',h4,h5⟩:=h.τ t r c l h1
  refine⟨r',c',l',h4,?_,h0,?_⟩
  ·rcases h5 with h5|⟨_,_,rfl⟩<;>omega
  ·rcases h5 with h5|⟨rfl,rfl,rfl⟩
   ·intro e;omega
   ·exact h3
theorem MpOk.ext {S S':Sh} {N:Nat} (h:Ex S N S') {b n o:Nat} {a:Addr} (k:MpOk S b n o a):MpOk S' b n o a:=by
 obtain⟨r,c,l,h1,h2,h3⟩:=k
 obtain⟨r',c',l',h4,h5⟩:=h.τ b r c l h1
 refine⟨r',c',l',h4,?_,?_⟩
 ·rcases h5 with h5|⟨_,_,rfl⟩<;>omega
 ·rcases h5 with h5|⟨rfl,rfl,rfl⟩
  ·intro e;omega
  ·exact h3
theorem VR.ext {S S':Sh} {N:Nat} (h:Ex S N S') {a:AVal} {v:Value} (k:VR S a v):VR S' a v:=by
 induction k with
 |undef=>exact .undef
 |bool b=>exact .bool b
 |int k n=>exact .int k n
 |str s l e=>exact .str s l e
 |nilp=>exact .nilp
 |ptr b o r e=>exact .ptr b o r (h.ρ b r e)
 |eptr cs o r o0 vs h1 hp _ ih=>exact .eptr cs o r o0 vs (fun j a hj=>h.M _ _ (h1 j a hj)) hp ih
 |slice es tk ad n cap esz vs hn hc hcm hsp hsz h1 hp _ ht ih=>
  exact .slice es tk ad n cap esz vs hn hc hcm hsp hsz (fun i c j a hi hj=>h.M _ _ (h1 i c j a hi hj)) hp ih (ht.ext h)
 |snil tk e=>exact .snil tk e
 |ms es b n m ad cap _ hn hm hc hcm ht hsp ih=>exact .ms es b n m ad cap ih hn hm hc hcm (ht.ext h) hsp
 |mptr b o n r o' e=>exact .mptr b o n r o' (e.ext h)
 |mref b r e=>exact .mref b r (h.ρ b r e)
 |nilm=>exact .nilm
 |func f a b x y hx hy _ _ i1 i2=>exact .func f a b x y hx hy i1 i2
 |nilf=>exact .nilf
 |iface t a v _ ih=>exact .iface t a v ih
 |nili=>exact .nili
 |agg a x hx _ ih=>exact .agg a x hx ih
 |tuple a x hx _ ih=>exact .tuple a x hx ih
theorem VRl.ext {S S':Sh} {N:Nat} (h:Ex S N S') {a:List AVal} {x:List Value} (k:VRl S a x):VRl S' a x:=
 ⟨k.1,fun j u v hu hv=>(k.2 j u v hu hv).ext h⟩
theorem VR.cells {S:Sh} {a:AVal} {v:Value} (h:VR S a v):VRl S a.cells v.cells.toList:=by
 cases h with
 |agg a x hx h1=>exact⟨by simpa[AVal.cells,Value.cells]using hx,fun j u v hu hv=>h1 j u v hu (by simpa[Value.cells]using hv)⟩
 |tuple a x hx h1=>exact .cons (.tuple a x hx h1) (.nil S)
 |undef=>exact .cons .undef (.nil S)
 |bool b=>exact .cons (.bool b) (.nil S)
 |int k n=>exact .cons (.int k n) (.nil S)
 |str s l e=>exact .cons (.str s l e) (.nil S)
 |nilp=>exact .cons .nilp (.nil S)
 |ptr b o r e=>exact .cons (.ptr b o r e) (.nil S)
 |eptr cs o r o0 vs h1 hp h2=>exact .cons (.eptr cs o r o0 vs h1 hp h2) (.nil S)
 |slice es tk ad n cap esz vs hn hc hcm hsp hsz h1 hp h2 ht=>exact .cons (.slice es tk ad n cap esz vs hn hc hcm hsp hsz h1 hp h2 ht) (.nil S)
 |snil tk e=>exact .cons (.snil tk e) (.nil S)
 |ms es b n m ad cap h hn hm hc hcm ht hsp=>exact .cons (.ms es b n m ad cap h hn hm hc hcm ht hsp) (.nil S)
 |mptr b o n r o' e=>exact .cons (.mptr b o n r o' e) (.nil S)
 |mref b r e=>exact .cons (.mref b r e) (.nil S)
 |nilm=>exact .cons .nilm (.nil S)
 |func f a b x y hx hy h1 h2=>exact .cons (.func f a b x y hx hy h1 h2) (.nil S)
 |nilf=>exact .cons .nilf (.nil S)
 |iface t a v h=>exact .cons (.iface t a v h) (.nil S)
 |nili=>exact .cons .nili (.nil S)
theorem VR.oneA {S:Sh} {a:AVal} {v:Value} (k:VR S a v) (ha:oneA a=true):v.oneCell'=true:=by
 cases k<;>first|rfl|(simp[Go.Ab.oneA]at ha)
theorem VR.one {S:Sh} {a:AVal} {v:Value} (h:VR S a v) (ha:qaq a=true):v.oneCell'=true:=by
 unfold qaq at ha
 simp only[Bool.and_eq_true]at ha
 exact h.oneA ha.1
def BR (P:Program) (S:Sh) (w:World) (b:Nat):Blk→Prop
 | .box cs=>∃r C T,S.ρ b=some r∧w.heap[r]? =some (.cells C T (0,0))∧VRl S cs C.toList∧∀o,S.M ⟨r,o,none⟩=none
 | .map ks vs=>∃r E k,S.ρ b=some r∧w.heap[r]? =some (.map E k)∧VRl S ks (E.toList.map (·.key))∧VRl S vs (E.toList.map (·.val))∧∀o,S.M ⟨r,o,none⟩=none
 | .tok len e=>∃r cap C i,S.τ b=some (r,cap,len)∧w.heap[r]? =some (.cells C e (0,0))∧P.info? e=some i∧
  0<i.size∧C.size=cap*i.size∧len≤cap∧cap≤maxLen∧∀o,len*i.size≤o→S.M ⟨r,o,none⟩=none
 | .arr p cs len e=>∃r cap C i,S.τ b=some (r,cap,len)∧w.heap[r]? =some (.cells C e (0,0))∧P.info? e=some i∧
  0<i.size∧C.size=cap*i.size∧len≤cap∧cap≤maxLen∧p+cs.length=len*i.size∧VRl S cs ((C.toList.drop p).take cs.length)∧∀o,p≤o→S.M ⟨r,o,none⟩=none
structure WR (P:Program) [Tabs P] (S:Sh) (h:qaa) (w:World):Prop where
 imm:∀a v,S.M a=some v→w.cell? a=some v∧a.spot=none
 blk:∀b x,h[b]? =some x→BR P S w b x
 ρdom:∀b r,S.ρ b=some r→∃x,h[b]? =some x∧x.isR=true
 τdom:∀b x,S.τ b=some x→∃y,h[b]? =some y∧y.tl=some x.2.2
 injρ:∀b b' r,S.ρ b=some r→S.ρ b'=some r→b=b'
 injτ:∀b b' r c c' l l',S.τ b=some (r,c,l)→S.τ b'=some (r,c',l')→b=b'
 apart:∀b b' r c l,S.ρ b=some r→S.τ b'=some (r,c,l)→False
 frz:∀x o,S.F x=some o→w.heap[x]? =some o∧(∀b,S.ρ b≠some x)∧(∀t c l,S.τ t≠some (x,c,l))
 laid:Tabs.ok P S.F
structure Fr (S:Sh) (w w':World):Prop where
 os:w'.os=w.os
 tape:w'.tape=w.tape
 output:w'.output=w.output
 size:w.heap.size≤w'.heap.size
 block:∀k,k<w.heap.size→(∀b,S.ρ b≠some k)→(∀t c l,S.τ t≠some (k,c,l))→w'.heap[k]? =w.heap[k]?
structure Step (P:Program) [Tabs P] (S:Sh) (w:World) (S':Sh) (h':qaa) (w':World):Prop where
 ext:Ex S w.heap.size S'
 fr:Fr S w w'
 wr:WR P S' h' w'
theorem Fr.refl (S:Sh) (w:World):Fr S w w:=⟨rfl,rfl,rfl,wg _,fun _ _ _ _=>rfl⟩
theorem Fr.trans {S S1:Sh} {w w1 w2:World} (h:Fr S w w1) (e:Ex S w.heap.size S1) (k:Fr S1 w1 w2):Fr S w w2 where
 os:=k.os.trans h.os
 tape:=k.tape.trans h.tape
 output:=k.output.trans h.output
 size:=Nat.le_trans h.size k.size
 block i hi h1 h2:=by
  rw[k.block i (Nat.lt_of_lt_of_le hi h.size) ?_ ?_,h.block i hi h1 h2]
  ·intro b hb
   rcases e.newρ b i hb with h3|h3
   ·exact h1 b h3
   ·omega
  ·intro t c l ht
   rcases e.newτ t i c l ht with⟨c0,l0,h3⟩|h3
   ·exact h2 t c0 l0 h3
   ·omega
theorem Step.refl {P:Program} [Tabs P] {S:Sh} {h:qaa} {w:World} (k:WR P S h w):Step P S w S h w:=⟨.refl S _,.refl S w,k⟩
theorem Step.trans {P:Program} [Tabs P] {S S1 S2:Sh} {h1 h2:qaa} {w w1 w2:World} (a:Step P S w S1 h1 w1) (b:Step P S1 w1 S2 h2 w2):Step P S w S2 h2 w2:=
 ⟨a.ext.trans b.ext a.fr.size,a.fr.trans a.ext b.fr,b.wr⟩
theorem WR.box {P:Program} [Tabs P] {S:Sh} {h:qaa} {w:World} (k:WR P S h w) (b:Nat) (cs:List AVal) (hb:h[b]? =some (.box cs)):
 ∃r C T,S.ρ b=some r∧w.heap[r]? =some (.cells C T (0,0))∧VRl S cs C.toList∧∀o,S.M ⟨r,o,none⟩=none:=k.blk b _ hb
theorem WR.map {P:Program} [Tabs P] {S:Sh} {h:qaa} {w:World} (k:WR P S h w) (b:Nat) (ks vs:List AVal) (hb:h[b]? =some (.map ks vs)):
 ∃r E k,S.ρ b=some r∧w.heap[r]? =some (.map E k)∧VRl S ks (E.toList.map (·.key))∧VRl S vs (E.toList.map (·.val))∧∀o,S.M ⟨r,o,none⟩=none:=k.blk b _ hb
theorem WR.tok {P:Program} [Tabs P] {S:Sh} {h:qaa} {w:World} (k:WR P S h w) (b len:Nat) (e:TypeId) (hb:h[b]? =some (.tok len e)):
 ∃r cap C i,S.τ b=some (r,cap,len)∧w.heap[r]? =some (.cells C e (0,0))∧P.info? e=some i∧
 0<i.size∧C.size=cap*i.size∧len≤cap∧cap≤maxLen∧∀o,len*i.size≤o→S.M ⟨r,o,none⟩=none:=k.blk b _ hb
theorem WR.arr {P:Program} [Tabs P] {S:Sh} {h:qaa} {w:World} (k:WR P S h w) (b p:Nat) (cs:List AVal) (len:Nat) (e:TypeId) (hb:h[b]? =some (.arr p cs len e)):
 ∃r cap C i,S.τ b=some (r,cap,len)∧w.heap[r]? =some (.cells C e (0,0))∧P.info? e=some i∧
 0<i.size∧C.size=cap*i.size∧len≤cap∧cap≤maxLen∧p+cs.length=len*i.size∧VRl S cs ((C.toList.drop p).take cs.length)∧∀o,p≤o→S.M ⟨r,o,none⟩=none:=k.blk b _ hb
def Nm (S:Sh) (b r:Nat):Prop:=S.ρ b=some r∨∃c l,S.τ b=some (r,c,l)
theorem BR.keep {P:Program} {S S':Sh} {w w':World} {b b':Nat} {x:Blk} (k:BR P S w b x) (hρ:∀r,S.ρ b=some r→S'.ρ b'=some r) (hτ:∀y,S.τ b=some y→S'.τ b'=some y)
 (hv:∀l X,VRl S l X→VRl S' l X) (hw:∀r,Nm S b r→w'.heap[r]? =w.heap[r]?) (hM:∀r o,Nm S b r→S.M ⟨r,o,none⟩=none→S'.M ⟨r,o,none⟩=none):BR P S' w' b' x:=by
 cases x with
 |box cs=>obtain⟨r,C,T,h1,h2,h3,h4⟩:=k;exact⟨r,C,T,hρ r h1,(hw r (.inl h1)).trans h2,hv _ _ h3,fun o=>hM r o (.inl h1) (h4 o)⟩
 |map ks vs=>obtain⟨r,E,q,h1,h2,h3,h4,h5⟩:=k;exact⟨r,E,q,hρ r h1,(hw r (.inl h1)).trans h2,hv _ _ h3,hv _ _ h4,fun o=>hM r o (.inl h1) (h5 o)⟩
 |tok len e=>
  obtain⟨r,cap,C,i,h1,h2,h3,h4,h5,h6,h7,h8⟩:=k
  exact⟨r,cap,C,i,hτ _ h1,(hw r (.inr ⟨_,_,h1⟩)).trans h2,h3,h4,h5,h6,h7,fun o ho=>hM r o (.inr ⟨_,_,h1⟩) (h8 o ho)⟩
 |arr p cs len e=>
  obtain⟨r,cap,C,i,h1,h2,h3,h4,h5,h6,h7,h8,h9,h10⟩:=k
  exact⟨r,cap,C,i,hτ _ h1,(hw r (.inr ⟨_,_,h1⟩)).trans h2,h3,h4,h5,h6,h7,h8,hv _ _ h9,fun o ho=>hM r o (.inr ⟨_,_,h1⟩) (h10 o ho)⟩
theorem BR.nameR {P:Program} {S:Sh} {w:World} {b:Nat} {x:Blk} (k:BR P S w b x) (hx:x.isR=true):∃r,S.ρ b=some r∧r<w.heap.size:=by
 cases x with
 |box cs=>obtain⟨r,C,T,h1,h2,_⟩:=k;exact⟨r,h1,(wa.1 h2).1⟩
 |map ks vs=>obtain⟨r,E,q,h1,h2,_⟩:=k;exact⟨r,h1,(wa.1 h2).1⟩
 |tok len e=>cases hx
 |arr p cs len e=>cases hx
theorem BR.nameT {P:Program} {S:Sh} {w:World} {b:Nat} {x:Blk} {l:Nat} (k:BR P S w b x) (hx:x.tl=some l):∃r c,S.τ b=some (r,c,l)∧r<w.heap.size:=by
 cases x with
 |box cs=>cases hx
 |map ks vs=>cases hx
 |tok len e=>obtain⟨r,cap,C,i,h1,h2,_⟩:=k;cases hx;exact⟨r,cap,h1,(wa.1 h2).1⟩
 |arr p cs len e=>obtain⟨r,cap,C,i,h1,h2,_⟩:=k;cases hx;exact⟨r,cap,h1,(wa.1 h2).1⟩
theorem Blk.r_or_t (x:Blk):(x.isR=true∧x.tl=none)∨(x.isR=false∧∃l,x.tl=some l):=by
 cases x with
 |box cs=>exact .inl ⟨rfl,rfl⟩
 |map ks vs=>exact .inl ⟨rfl,rfl⟩
 |tok len e=>exact .inr ⟨rfl,len,rfl⟩
 |arr p cs len e=>exact .inr ⟨rfl,len,rfl⟩
theorem WR.drew {P:Program} [Tabs P] {S:Sh} {h:qaa} {w:World} (k:WR P S h w):WR P S h w.drew:=
 ⟨k.imm,fun b x hb=>(k.blk b x hb).keep (fun _ h=>h) (fun _ h=>h) (fun _ _ h=>h) (fun _ _=>rfl) (fun _ _ _ h=>h),k.ρdom,k.τdom,k.injρ,k.injτ,k.apart,k.frz,k.laid⟩
theorem Fr.drew (S:Sh) (w:World):Fr S w w.drew:=⟨rfl,rfl,rfl,wg _,fun _ _ _ _=>rfl⟩
theorem Step.drew {P:Program} [Tabs P] {S:Sh} {h:qaa} {w:World} (k:WR P S h w):Step P S w S h w.drew:=⟨.refl S _,.drew S w,k.drew⟩
theorem WR.lt {P:Program} [Tabs P] {S:Sh} {h:qaa} {w:World} (k:WR P S h w) {b r:Nat} (hb:S.ρ b=some r):b<h.length∧r<w.heap.size:=by
 obtain⟨x,hx,hr⟩:=k.ρdom b r hb
 obtain⟨r',h1,h2⟩:=(k.blk b x hx).nameR hr
 rw[hb]at h1;cases h1
 exact⟨(wc.1 hx).1,h2⟩
theorem WR.ltτ {P:Program} [Tabs P] {S:Sh} {h:qaa} {w:World} (k:WR P S h w) {b r c l:Nat} (hb:S.τ b=some (r,c,l)):b<h.length∧r<w.heap.size:=by
 obtain⟨x,hx,hr⟩:=k.τdom b _ hb
 obtain⟨r',c',h1,h2⟩:=(k.blk b x hx).nameT hr
 rw[hb]at h1;cases h1
 exact⟨(wc.1 hx).1,h2⟩
theorem WR.ltN {P:Program} [Tabs P] {S:Sh} {h:qaa} {w:World} (k:WR P S h w) {b r:Nat} (hb:Nm S b r):b<h.length∧r<w.heap.size:=by
 rcases hb with hb|⟨c,l,hb⟩
 ·exact k.lt hb
 ·exact k.ltτ hb
theorem WR.nmNe {P:Program} [Tabs P] {S:Sh} {h:qaa} {w:World} (k:WR P S h w) {b b' r r':Nat} (hb:Nm S b r) (hb':Nm S b' r') (hne:b≠b'):r≠r':=by
 intro e;subst e
 rcases hb with hb|⟨c,l,hb⟩
 ·rcases hb' with hb'|⟨c',l',hb'⟩
  ·exact hne (k.injρ b b' r hb hb')
  ·exact k.apart b b' r c' l' hb hb'
 ·rcases hb' with hb'|⟨c',l',hb'⟩
  ·exact k.apart b' b r c l hb' hb
  ·exact hne (k.injτ b b' r c c' l l' hb hb')
theorem WR.nm {P:Program} [Tabs P] {S:Sh} {h:qaa} {w:World} (k:WR P S h w) {b:Nat} {x:Blk} (hb:h[b]? =some x):∃r,Nm S b r:=by
 rcases x.r_or_t with⟨h1,_⟩|⟨_,l,h1⟩
 ·obtain⟨r,h2,_⟩:=(k.blk b x hb).nameR h1;exact⟨r,.inl h2⟩
 ·obtain⟨r,c,h2,_⟩:=(k.blk b x hb).nameT h1;exact⟨r,.inr ⟨c,l,h2⟩⟩
theorem WR.ltM {P:Program} [Tabs P] {S:Sh} {h:qaa} {w:World} (k:WR P S h w) {a:Addr} {v:Value} (ha:S.M a=some v):a.block<w.heap.size:=
 World.block_lt_of_cell? w a (k.imm a v ha).1
theorem qc4 {P:Program} [Tabs P] {S S':Sh} {h:qaa} {w w':World} (k:WR P S h w) (hx:Ex S w.heap.size S') (hf:Fr S w w'):
 ∀x o,S'.F x=some o→w'.heap[x]? =some o∧(∀b,S'.ρ b≠some x)∧(∀t c l,S'.τ t≠some (x,c,l)):=by
 intro x o hxo
 rw[hx.F]at hxo
 obtain⟨h1,h2,h3⟩:=k.frz x o hxo
 have hlt:=(wa.1 h1).1
 refine⟨(hf.block x hlt h2 h3).trans h1,fun b hb=> ?_,fun t c l ht=> ?_⟩
 ·rcases hx.newρ b x hb with h4|h4
  ·exact h2 b h4
  ·omega
 ·rcases hx.newτ t x c l ht with⟨c0,l0,h4⟩|h4
  ·exact h3 t c0 l0 h4
  ·omega
theorem qdl {P:Program} [Tabs P] {S S':Sh} {h:qaa} {w:World} {N:Nat} (k:WR P S h w) (hx:Ex S N S'):Tabs.ok P S'.F:=by rw[hx.F];exact k.laid
end Go.Ab
