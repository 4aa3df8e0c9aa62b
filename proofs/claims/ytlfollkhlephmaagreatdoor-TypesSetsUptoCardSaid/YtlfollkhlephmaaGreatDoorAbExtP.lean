/- What stands for strconv.ParseInt at base 10. -/
import Derived.Test.YtlfollkhlephmaaGreatDoorAbExt
import Derived.Lib.ParseIntB
import Derived.Lib.AtoiErrMem
set_option linter.unusedSimpArgs false
set_option linter.unusedVariables false
set_option maxRecDepth 100000
set_option maxHeartbeats 4000000
namespace Go.Ab
open Go.RowKit
def qe0 (T:TypeId):List AVal→qaa→Option CR
 |[.str s,.int .i64 10,.int .i64 64],_=>if s.length≤extMax then(match Lib.parseIntB 64 s with
  | .ok v=>some (.ret (.tuple [.int .i64 v,.nili]) .same)
  | .range=>some (.ret (.tuple [.int .i64 (Lib.intSat 64 s),.iface T (.eptr [] 0)]) .same)
  | .syntax=>none)else none
 |_,_=>none
theorem qno {P:Program} [Tabs P] {f:FuncId} {T:TypeId}
 (rng:∀(S:Sh) (h:qaa) (w:World),WR P S h w→∃tp p,w.var? P "strconv.ErrRange" =some #[.iface tp p])
 (h1:∀(s:ByteArray) (_:s.size≤9223372036854775806) (v:Int) (_:Lib.parseIntB 64 s.data.toList= .ok v) (w:World),
  Calls P f #[.string s,.int .i64 10,.int .i64 64] w fun e w'=>e= .returned (.tuple #[.int .i64 v,.nilIface])∧Below w.heap.size w w')
 (h2:∀(s:ByteArray) (_:s.size≤281474976710656) (_:Lib.parseIntB 64 s.data.toList= .range) (tp:TypeId) (p:Value) (w:World) (_:w.var? P "strconv.ErrRange" =some #[.iface tp p]),
  Calls P f #[.string s,.int .i64 10,.int .i64 64] w fun e w'=>∃N,e= .returned (.tuple #[.int .i64 (Lib.intSat 64 s.data.toList),.iface T (.pointer (some ⟨N,0,none⟩))])∧Below w.heap.size w w')
 (args:List AVal) (h:qaa) (r:CR) (e:qe0 T args h=some r) (S:Sh) (w:World) (vs:Array Value) (k:WR P S h w) (ha:VRl S args vs.toList):Calls P f vs w (qco P S h w r):=by
 unfold qe0 at e
 split at e
 ·rename_i s
  split at e
  ·rename_i hb
   obtain⟨v1,y,hy,g1,ha⟩:=ha.inv_cons
   obtain⟨v2,y2,hy2,g2,ha⟩:=ha.inv_cons
   obtain⟨v3,y3,hy3,g3,ha⟩:=ha.inv_cons
   have hy4:=ha.inv_nil
   subst hy4 hy3 hy2
   have hvs:vs= #[v1,v2,v3]:=by apply Array.toList_inj.1;rw[hy]
   subst hvs
   cases g2
   cases g3
   cases g1 with
   |str sp _ hsp=>
    subst hsp
    have hsz:sp.size≤extMax:=by
     have:sp.data.toList.length=sp.size:=Array.length_toList
     rw[←this];exact hb
    unfold extMax at hsz
    split at e
    ·rename_i v hv
     cases e
     refine qa0 (h1 sp (by omega) v hv w) ?_
     rintro e w' ⟨rfl,hbl⟩
     exact⟨_,S,rfl,qhl k hbl,VR.tuple' (VRl.cons (.int _ _) (VRl.cons .nili (VRl.nil S)))⟩
    ·rename_i hv
     cases e
     obtain⟨tp,p,hvar⟩:=rng S h w k
     refine qa0 (h2 sp (by omega) hv tp p w hvar) ?_
     rintro e w' ⟨N,rfl,hbl⟩
     refine⟨_,S,rfl,qhl k hbl,VR.tuple' (VRl.cons (.int _ _) (VRl.cons (.iface _ _ _ ?_) (VRl.nil S)))⟩
     exact .eptr [] 0 N 0 (fun _=> .nilFunc) (fun j a hj=>by simp at hj) (fun a ha=>by cases ha) (fun j a hj=>by simp at hj)
    ·cases e
  ·cases e
 ·cases e
theorem qgw (T:TypeId) (args:List AVal) (h:qaa) (r:CR) (e:qe0 T args h=some r):qbo h r.eff∧LowC h r:=by
 unfold qe0 at e
 split at e
 ·split at e
  ·split at e
   ·cases e;exact⟨.refl h _,fun v hv=>by cases hv;rfl⟩
   ·cases e;exact⟨.refl h _,fun v hv=>by cases hv;rfl⟩
   ·cases e
  ·cases e
 ·cases e
end Go.Ab
