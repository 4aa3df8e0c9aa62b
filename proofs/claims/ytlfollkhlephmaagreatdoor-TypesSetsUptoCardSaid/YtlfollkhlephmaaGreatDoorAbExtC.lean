/- A stand-in for slices.Clone of strings, and its truth. -/
import Derived.Test.YtlfollkhlephmaaGreatDoorAbExt
set_option linter.unusedSimpArgs false
set_option linter.unusedVariables false
set_option maxRecDepth 100000
set_option maxHeartbeats 4000000
open List renaming getElem?_eq_getElem→wa,getElem?_map→wb,mem_map→wc
open Array renaming ext'→wd
namespace Go.Ab
open Go.RowKit
variable {P:Program}
def qf5:List AVal→qaa→Option CR
 |[.slice es _],_=>match qhm es with
  |some l=>if l.length≤1099511627776 then some (.ret (.slice (l.map fun s=>[.str s]) .free) .same)else none
  |none=>none
 |_,_=>none
theorem qlt (args:List AVal) (h:qaa) (r:CR) (e:qf5 args h=some r):qbo h r.eff∧LowC h r:=by
 unfold qf5 at e
 split at e
 ·split at e
  ·split at e
   ·cases e
    exact⟨KeepH.refl _ _,fun v hv=>by cases hv;rfl⟩
   ·cases e
  ·cases e
 ·cases e
theorem below_imm [Tabs P] {S:Sh} {h:qaa} {w w':World} (k:WR P S h w) (hb:Below w.heap.size w w') {g:Nat} {cur:Array Value} {T:TypeId} {X:List Value} (hg:w.heap.size≤g) (hw:w'.heap[g]? =some (.cells cur T (0,0)))
 (hX:∀(j:Nat) (v:Value),X[j]? =some v→cur[j]? =some v):Step P S w (S.withImm g X) h w':=by
 have hf:Fr S w w':=⟨hb.os,hb.tape,hb.output,hb.size,fun i hi _ _=>hb.block i hi⟩
 have hx:Ex S w.heap.size (S.withImm g X):=by
  refine⟨fun a v ha=> ?_,fun b r hb=>hb,fun t r c l ht=>⟨r,c,l,ht,.inr ⟨rfl,rfl,rfl⟩⟩,fun b r hb=> .inl hb,fun t r c l ht=> .inl ⟨c,l,ht⟩,fun a v ha=> ?_,rfl⟩
  ·simp only[Sh.withImm]
   have:=k.ltM ha
   rw[if_neg (by omega)];exact ha
  ·simp only[Sh.withImm]at ha
   split at ha
   ·rename_i hc;exact .inr (.inl (by omega))
   ·exact .inl ha
 have hold:∀r,r<w.heap.size→∀o,(S.withImm g X).M ⟨r,o,none⟩=S.M ⟨r,o,none⟩:=fun r hr o=>by
  simp only[Sh.withImm];rw[if_neg (by simp;omega)]
 refine⟨hx,hf,?_⟩
 constructor
 ·intro a v ha
  simp only[Sh.withImm]at ha
  split at ha
  ·rename_i hc
   refine⟨?_,hc.2⟩
   simp only[World.cell?,hc.1,hw,hc.2,Option.isSome_none,Bool.false_eq_true,if_false,hX _ _ ha]
  ·exact⟨qer (hb.block _ (k.ltM ha)) (k.imm a v ha).1,(k.imm a v ha).2⟩
 ·intro b x hbb
  exact(k.blk b x hbb).keep (fun _ h=>h) (fun _ h=>h) (fun _ _ h=>h.ext hx) (fun r hr=>hb.block r (k.ltN hr).2) (fun r o hr h=>by rw[hold r (k.ltN hr).2];exact h)
 ·exact k.ρdom
 ·exact k.τdom
 ·exact k.injρ
 ·exact k.injτ
 ·exact k.apart
 ·exact qc4 k hx hf
 ·exact qdl k hx
theorem clone_ok [Tabs P] {f:FuncId} {T:TypeId}
 (hs:∀(b off n c:Nat) (zs:List ByteArray) (w:World),n≤zs.length→n*16≤140737488355328→(∀j,j<zs.length→w.cell? ⟨b,off+j,none⟩=some (.string (zs.getD j ByteArray.empty)))→
  Calls P f #[.slice (some ⟨b,off,none⟩) n c] w fun e w'=>∃v',e= .returned v'∧w'.ownsRow w.heap.size T 1 v' n ((zs.take n).map (Value.string))∧v'≠ .slice none 0 0∧Below w.heap.size w w')
 (hn:∀(n c:Nat) (w:World),Calls P f #[.slice none n c] w fun e w'=>e= .returned (.slice none 0 0)∧w'=w)
 (hz:∀(a:Addr) (c:Nat) (w:World),Calls P f #[.slice (some a) 0 c] w fun e w'=>∃v',e= .returned v'∧w'.ownsRow w.heap.size T 1 v' 0 []∧v'≠ .slice none 0 0∧Below w.heap.size w w')
 (args:List AVal) (h:qaa) (r:CR) (e:qf5 args h=some r) (S:Sh) (w:World) (vs:Array Value) (k:WR P S h w) (ha:VRl S args vs.toList):Calls P f vs w (qco P S h w r):=by
 unfold qf5 at e
 split at e
 ·rename_i es tk
  split at e
  ·rename_i l hl
   split at e
   ·rename_i hle
    cases e
    obtain⟨v,y,hv,hr,hy⟩:=ha.inv_cons
    have:=hy.inv_nil
    subst this
    have hvs:vs= #[v]:=by apply wd;simpa using hv
    subst hvs
    rcases strs_read k hr hl with⟨rfl,a,c,rfl⟩|⟨bk,o,c,xs,hne,rfl,hxs,hxc,hbk,hcell⟩
    ·cases a with
     |none=>
      refine qa0 (hn 0 c w) ?_
      rintro e' w' ⟨rfl,rfl⟩
      exact⟨_,S,rfl,.refl k,.snil .free (.inl rfl)⟩
     |some a=>
      refine qa0 (hz a c w) ?_
      rintro e' w' ⟨v',rfl,ho,hnn,hb⟩
      obtain⟨_,ho⟩:=ho
      rcases ho with⟨h0,_⟩|⟨g,cap,cur,rfl,hg,hw,hnc,hcm,_,_⟩
      ·exact absurd h0 hnn
      ·exact⟨_,S,rfl,qhl k hb,VR.made (.nil S 1) (fun j v hj=>by simp at hj) rfl hnc hcm trivial⟩
    ·have hlen:xs.length=l.length:=by rw[←hxs];simp
     refine qa0 (hs bk o xs.length c xs w (Nat.le_refl _) (by omega) (fun j hj=>by
      have:=hcell j xs[j] (wa hj)
      rw[this];simp[List.getD_eq_getElem?_getD,hj])) ?_
     rintro e' w' ⟨v',rfl,ho,hnn,hb⟩
     obtain⟨_,ho⟩:=ho
     rcases ho with⟨h0,_⟩|⟨g,cap,cur,rfl,hg,hw,hnc,hcm,hcs,htk⟩
     ·exact absurd h0 hnn
     ·have hX:∀(j:Nat) (v:Value),(xs.map Value.string)[j]? =some v→cur[j]? =some v:=by
       intro j v hj
       rw[List.take_length,Nat.mul_one]at htk
       rw[←htk]at hj
       rw[List.getElem?_take]at hj
       split at hj
       ·rw[Array.getElem?_toList]at hj;exact hj
       ·cases hj
      have hst:=below_imm k hb hg hw hX
      refine⟨_,_,rfl,hst,?_⟩
      refine VR.made (sz:=1) (X:=xs.map Value.string) ⟨by simp[hlen],fun c hc=> ?_,fun c hc=> ?_,fun i c j a hi hj=> ?_⟩ (fun j v hj=> ?_) (by simp[hlen]) hnc hcm trivial
      ·obtain⟨s,_,rfl⟩:=wc.1 hc;rfl
      ·obtain⟨s,_,rfl⟩:=wc.1 hc
       intro a ha
       simp only[List.mem_cons,List.not_mem_nil,or_false]at ha
       subst ha;rfl
      ·rw[wb]at hi
       cases hs':l[i]? with
       |none=>rw[hs']at hi;cases hi
       |some s=>
        rw[hs']at hi
        simp only[Option.map_some,Option.some.injEq]at hi
        subst hi
        cases j with
        |succ j=>simp at hj
        |zero=>
         simp at hj;subst hj
         have hi':i<xs.length:=by rw[hlen];exact(List.getElem?_eq_some_iff.1 hs').1
         refine⟨.string xs[i],by simp[hi'],.str _ s ?_⟩
         rw[←hxs,wb,wa hi']at hs'
         simpa using hs'
      ·simp only[Sh.withImm,and_self,if_true]
       exact hj
   ·cases e
  ·cases e
 ·cases e
def extCl (P:Program) (cmp:List TypeId) (f:FuncId):List AVal→qaa→Option CR
 |[.slice [] _],h=>(match fnA P cmp (fun _ _ _=>none) (qa8 1) f [.slice [] .zero] h with
  |some (.ret (.slice [] .full) .same)=>some (.ret (.slice [] .full) .same)
  |_=>none)
 |[.slice (c::r) tk],h=>fnA P cmp (fun _ _ _=>none) (qa8 1) f [.slice (c::r) tk] h
 |[.ms es b n m],h=>fnA P cmp (fun _ _ _=>none) (qa8 1) f [.ms es b n m] h
 |_,_=>none
theorem qip:qaj (fun _ _ _=>none):=fun f a h r e=>by cases e
theorem qon {cmp:List TypeId} {f:FuncId} (args:List AVal) (h:qaa) (r:CR) (e:extCl P cmp f args h=some r):qbo h r.eff∧LowC h r:=by
 unfold extCl at e
 split at e
 ·split at e
  ·cases e;exact⟨KeepH.refl _ _,fun v hv=>by cases hv;rfl⟩
  ·cases e
 ·exact qkg qip (qez 1) _ _ _ _ e
 ·exact qkg qip (qez 1) _ _ _ _ e
 ·cases e
theorem cl_ok [Tabs P] {cmp:List TypeId} (hp:qel P cmp) {f:FuncId}
 (hn:∀(n c:Nat) (w:World),Calls P f #[.slice none n c] w fun e w'=>e= .returned (.slice none 0 0)∧w'=w)
 (args:List AVal) (h:qaa) (r:CR) (e:extCl P cmp f args h=some r) (S:Sh) (w:World) (vs:Array Value) (k:WR P S h w) (ha:VRl S args vs.toList):Calls P f vs w (qco P S h w r):=by
 have hc:qay P (fun _ _ _=>none):=fun f a h r e=>by cases e
 have run:∀{a:List AVal} {r:CR},fnA P cmp (fun _ _ _=>none) (qa8 1) f a h=some r→VRl S a vs.toList→Calls P f vs w (qco P S h w r):=fun e ha=>(qme hp hc qip (qez 1) _ _ _ _ e).2 S w vs k ha
 unfold extCl at e
 split at e
 ·rename_i tk
  split at e
  ·rename_i hr
   cases e
   obtain⟨v,y,hv,hvr,hy⟩:=ha.inv_cons
   have:=hy.inv_nil
   subst this
   have hvs:vs= #[v]:=by apply wd;simpa using hv
   subst hvs
   cases hvr with
   |slice _ _ ad n cap esz vs' hn hc' hcm hsp hsz h1 hp' h2 ht=>
    exact run hr (VRl.cons (.slice [] .zero ad n cap esz vs' hn hc' hcm hsp hsz h1 hp' h2 trivial) (.nil _))
   |snil=>
    refine qa0 (hn 0 0 w) ?_
    rintro e' w' ⟨rfl,rfl⟩
    exact⟨_,S,rfl,.refl k,.snil .full (.inr rfl)⟩
  ·cases e
 ·exact run e ha
 ·exact run e ha
 ·cases e
end Go.Ab
