/- From a call's result to the row's words, where nothing of the old memory has turned. -/
import Derived.Test.YtlfollkhlephmaaGreatDoorAbRead
import Derived.Carry
import Derived.Below
import Derived.OpenShut
import Derived.RowKit
import Derived.LaidLaws
import Derived.Lib.LaidTab
import GoSem.ClaimJoined
set_option linter.unusedSimpArgs false
set_option linter.unusedVariables false
set_option maxRecDepth 100000
set_option maxHeartbeats 4000000
open Option renaming bind_some→wa
namespace Go.Ab
open Go.RowKit Go.ChangeShapes
theorem qhz {H:Type} {enc:TypeId×Value→H} {P:Program} (hl:laidOutB P=true) {W W':World} (hb:Below W.heap.size W W'):
 ∀(ts:List TypeId) (vs:List Value) (ds:List (DataW H)) (ps:List MemPlace),(∀t∈ts,P.readableRec t=true∧t<P.types.size)→(∀x∈ps,x.block<W.heap.size)→
  DataW.TrodAll enc P W 0 (fun _=>true) true ts vs ds ps→DataW.TrodAll enc P W' 0 (fun b=>decide (b<W.heap.size)) true ts vs ds ps
 |[],vs,ds,ps,_,_,h=>by
  obtain⟨rfl,rfl,rfl⟩:=trodAll_nil h
  exact trodAll_mk0
 |t::ts,vs,ds,ps,ht,hp,h=>by
  obtain⟨v,vs',d,ds',p,q,rfl,rfl,rfl,h1,h2⟩:=trodAll_cons h
  exact trodAll_cons_mk (Below.trod hl (ht t (by simp)).1 (ht t (by simp)).2 h1 hb (fun x hx=>hp x (by simp[hx]))) (qhz hl hb ts vs' ds' q (fun t h=>ht t (by simp[h])) (fun x hx=>hp x (by simp[hx])) h2)
theorem law_post {H:Type} {enc:TypeId×Value→H} {P:Program} {f:Func} {s:ChangeSpec} {W W':World} {args:Array Value} {ds gs:List (DataW H)} {before:List MemPlace} {tb:TypeId}
 (hl:laidOutB P=true) (hts:(f.params.toList.all fun t=>P.readableRec t && decide (t<P.types.size))=true) (hr:f.resultTypes= #[tb]) (htb:P.underlying tb=some .bool) (hs:s.vars=[])
 (hW:DataW.Whole enc P f.params.toList s.vars false W args.toList ds gs before) (hfn:(s.fn H (ds++gs)).results=[.lit (.bool true)]∧(s.fn H (ds++gs)).args=ds∧(s.fn H (ds++gs)).vars=[]) (hb:Below W.heap.size W W'):
 s.post enc P f false true false false W args (.bool true) W':=by
 have ht:∀t∈f.params.toList,P.readableRec t=true∧t<P.types.size:=fun t h=>by
  have:=List.all_eq_true.1 hts t h
  simpa using this
 have hW':=hW
 obtain⟨p,q,hA,hV,rfl,hfz,hnd⟩:=hW
 rw[hs]at hV
 obtain⟨rfl,rfl⟩:=trodVars_none hV
 have hlt:=hW'.lt
 refine⟨ds,[],p++[],[],p,[],hW',?_,?_,?_,hb.frame _,fun h=>by cases h⟩
 ·rw[hfn.1,hr]
  exact trodAll_cons_mk (shut_bool htb true) trodAll_mk0
 ·rw[hfn.2.1]
  exact qhz hl hb _ _ _ _ ht (fun x hx=>hlt x (by simp[hx])) hA
 ·rw[hs,hfn.2.2];rfl
theorem qm2 {P:Program} [Tabs P] {w w':World} {F:Nat→Option Obj} {S':Sh} {h':qaa} (st:Step P (S0 w F) w S' h' w'):Below w.heap.size w w':=
 ⟨st.fr.os,st.fr.tape,st.fr.output,st.fr.size,fun k hk=>st.fr.block k hk (fun b h=>by cases h) (fun t c l h=>by cases h)⟩
theorem qkm {P:Program} {W:World} {name:String} {d:DataW Unit}:∀(laid:List (String×DataW Unit)) (ps:List MemPlace),DataW.LaidVars P W laid ps→(name,d)∈laid→
 ∃g t cs fuel p,P.globalNamed name=some g∧(P.globals[g]?).map (·.type)=some t∧W.var? P name=some cs∧DataW.trod (fun _=>()) P W 0 (fun _=>true) false fuel t cs.toList=some (d,p)
 |[],_,_,hm=>by cases hm
 |(n,d')::r,ps,h,hm=>by
  obtain⟨g,t,cs,fuel,p,q,h1,h2,h3,h4,h5,_⟩:=h
  rcases List.mem_cons.1 hm with e|hm
  ·cases e;exact⟨g,t,cs,fuel,p,h1,h2,h3,h4⟩
  ·exact qkm r q h5 hm
theorem qpg {P:Program} {W:World} {name:String} {k:IntKind} {zs:List Int} {laid:List (String×DataW Unit)} {g:Nat} {t e:TypeId} {n:Nat}
 (hg:P.globalNamed name=some g) (hty:(P.globals[g]?).map (·.type)=some t) (ht:P.underlying t=some (.array n e)) (he:P.underlying e=some (.int k)) (hce:P.cellsOf e=1) (hct:P.cellsOf t=n)
 (h:laidMet P laid W) (hm:(name,Lib.tabData k zs)∈laid):Lib.TabIs P W name k zs:=by
 obtain⟨ps,hv,_⟩:=h
 obtain⟨g',t',cs,fuel,p,hg',ht',hvar,hd⟩:=qkm laid ps hv hm
 obtain rfl:=Option.some.inj (hg.symm.trans hg')
 obtain rfl:=Option.some.inj (hty.symm.trans ht')
 unfold Lib.TabIs
 rw[hvar,←Lib.cells_of_tab ht he hce hct hd]
def F1 (w:World) (g:Nat):Nat→Option Obj:=fun k=>if k=g then w.heap[k]? else none
theorem F1_of_tab {P:Program} {W:World} {name:String} {g:Nat} {cs:Array Value} (hg:P.globalNamed name=some g) (h:W.var? P name=some cs):∃g T fl,P.globalNamed name=some g∧F1 W g g=some (.cells cs T fl):=by
 unfold World.var? at h
 rw[hg,wa]at h
 split at h
 ·rename_i c T fl e
  cases h
  exact⟨g,T,fl,hg,by unfold F1;rw[if_pos rfl];exact e⟩
 ·cases h
def tabTyOk (P:Program) (name:String) (k:IntKind):Bool:=match P.globalNamed name with
 |some g=>match(P.globals[g]?).map (·.type)with
  |some t=>match P.underlying t with
   |some (.array n e)=>P.cellsOf t==n && P.cellsOf e==1 && (match P.underlying e with|some (.int k')=>decide (k'=k)|_=>false)
   |_=>false
  |none=>false
 |none=>false
theorem qn7 {P:Program} {W:World} {name:String} {k:IntKind} {zs:List Int} {laid:List (String×DataW Unit)} (hk:tabTyOk P name k=true)
 (h:laidMet P laid W) (hm:(name,Lib.tabData k zs)∈laid):∃g T fl,P.globalNamed name=some g∧F1 W g g=some (.cells (zs.map fun z=>Value.int k z).toArray T fl):=by
 unfold tabTyOk at hk
 split at hk
 ·rename_i g hg
  split at hk
  ·rename_i t ht
   split at hk
   ·rename_i n e hu
    simp only[Bool.and_eq_true,beq_iff_eq]at hk
    obtain⟨⟨h1,h2⟩,h3⟩:=hk
    split at h3
    ·rename_i k' hk'
     simp only[decide_eq_true_eq]at h3
     subst h3
     exact F1_of_tab hg (qpg hg ht hu hk' h2 h1 h hm)
    ·cases h3
   ·cases hk
  ·cases hk
 ·cases hk
def F2 (w:World) (g g2:Nat):Nat→Option Obj:=fun k=>if k=g∨k=g2 then w.heap[k]? else none
theorem F2_ok (w:World) (g g2:Nat):∀x o,F2 w g g2 x=some o→w.heap[x]? =some o:=by
 intro x o h
 unfold F2 at h
 split at h
 ·exact h
 ·cases h
theorem F2_l {w:World} {g g2:Nat} {o:Obj} (h:F1 w g g=some o):F2 w g g2 g=some o:=by
 unfold F1 at h;rw[if_pos rfl]at h
 unfold F2;rw[if_pos (.inl rfl)];exact h
theorem F2_r {w:World} {g g2:Nat} {o:Obj} (h:w.heap[g2]? =some o):F2 w g g2 g2=some o:=by
 unfold F2;rw[if_pos (.inr rfl)];exact h
def errTyOk (P:Program) (name:String):Bool:=match P.globalNamed name with
 |some g=>match(P.globals[g]?).map (·.type)with
  |some t=>match P.underlying t with
   |some (.interface _)=>true
   |_=>false
  |none=>false
 |none=>false
theorem qph {P:Program} {W:World} {name nm:String} {d:DataW Unit} {laid:List (String×DataW Unit)} (hk:errTyOk P name=true)
 (h:laidMet P laid W) (hm:(name,.iface nm d)∈laid):∃g tp p T fl,P.globalNamed name=some g∧W.heap[g]? =some (.cells #[.iface tp p] T fl):=by
 obtain⟨ps,hv,_⟩:=h
 obtain⟨g,t,cs,fuel,p,hg,ht,hvar,hd⟩:=qkm laid ps hv hm
 unfold errTyOk at hk
 rw[hg]at hk
 simp only[ht]at hk
 split at hk
 ·rename_i ms hu
  obtain⟨_,u,v,hcs,_,_⟩:=iface_of_trod hu hd
  have hc:cs= #[.iface u v]:=by apply Array.toList_inj.1;rw[hcs]
  subst hc
  unfold World.var? at hvar
  rw[hg,wa]at hvar
  split at hvar
  ·rename_i c T fl e
   cases hvar
   exact⟨g,u,v,T,fl,hg,e⟩
  ·cases hvar
 ·cases hk
def lay1 (cs:Array Value):Obj→Obj
 | .cells _ t fr=> .cells cs t fr
 |o=>o
def litsOf:DataW Unit→Array Value
 | .agg ds=>(ds.map fun| .lit (.int k n)=>Value.int k n|_=> .tuple #[]).toArray
 |_=> #[]
end Go.Ab
