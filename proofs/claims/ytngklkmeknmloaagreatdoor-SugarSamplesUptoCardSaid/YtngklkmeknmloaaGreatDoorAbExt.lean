/- What stands for strings.Join and strconv.FormatInt. -/
import Derived.Test.YtngklkmeknmloaaGreatDoorAbLim
import Derived.Lib.Join
import Derived.Lib.ItoaNum
import Derived.Lib.LaidTab
import Derived.Lib.AppendIntMem
set_option linter.unusedSimpArgs false
set_option linter.unusedVariables false
set_option maxRecDepth 100000
set_option maxHeartbeats 4000000
open List renaming getElem?_eq_getElem→wa,getElem?_map→wb,getElem?_eq_none→wc,getElem?_range→wd,length_map→wg
open Array renaming toList_inj→we
open Option renaming map_some→wh
open UInt8 renaming ofNat→wi
namespace Go.Ab
open Go.RowKit
theorem qe5 {P:Program} [Tabs P] {S:Sh} {h:qaa} {w w':World} (k:WR P S h w) (hb:Below w.heap.size w w'):Step P S w S h w':=by
 have hf:Fr S w w':=⟨hb.os,hb.tape,hb.output,hb.size,fun i hi _ _=>hb.block i hi⟩
 have hx:Ex S w.heap.size S:= .refl S _
 have hc:∀a v,w.cell? a=some v→w'.cell? a=some v:=fun a v ha=>by
  have hlt:=World.block_lt_of_cell? w a ha
  have:=hb.block a.block hlt
  unfold World.cell? at ha ⊢
  rw[this];exact ha
 refine⟨hx,hf,?_⟩
 constructor
 ·exact fun a v ha=>⟨hc a v (k.imm a v ha).1,(k.imm a v ha).2⟩
 ·intro b x hbb
  exact(k.blk b x hbb).keep (fun _ h=>h) (fun _ h=>h) (fun _ _ h=>h) (fun r hr=>hb.block r (k.ltN hr).2) (fun _ _ _ h=>h)
 ·exact k.ρdom
 ·exact k.τdom
 ·exact k.injρ
 ·exact k.injτ
 ·exact k.apart
 ·exact qdg k hx hf
 ·exact k.laid
def qe6:List (List AVal)→Option (List (List UInt8))
 |[]=>some []
 |[.str s]::r=>(qe6 r).map (s:: ·)
 |_=>none
def qhd (sep:List UInt8):List (List UInt8)→List UInt8
 |[]=>[]
 |[s]=>s
 |s::r=>s++sep++qhd sep r
def decN:Nat→Nat→List UInt8
 |0,_=>[]
 |f+1,n=>if n<10 then[wi (48+n)]else decN f (n/10)++[wi (48+n % 10)]
def decB (n:Int):List UInt8:=if n<0 then 45::decN 20 n.natAbs else decN 20 n.toNat
def qgy:Nat:=140737488355328
def qh0:List AVal→qaa→Option CR
 |[.slice es _,.str sep],_=>match qe6 es with
  |some l=>if l.length≤qgy∧(qhd sep l).length≤qgy then some (.ret (.str (qhd sep l)) .same)else none
  |none=>none
 |_,_=>none
def qj6:List AVal→qaa→Option CR
 |[.int .i64 n,.int .i64 10],_=>if -9223372036854775808≤n∧n≤9223372036854775807 then some (.ret (.str (decB n)) .same)else none
 |_,_=>none
theorem qp5 (sep:List UInt8) (l:List (List UInt8)):qhd sep l=Lib.join l sep:=by
 have key:∀(r:List (List UInt8)) (x:List UInt8),qhd sep (x::r)=x++Lib.joinTail sep r:=by
  intro r
  induction r with
  |nil=>intro x;simp[qhd,Lib.joinTail]
  |cons y r ih=>intro x;rw[show qhd sep (x::y::r)=x++sep++qhd sep (y::r)from rfl,ih y];simp[Lib.joinTail]
 cases l with
 |nil=>rfl
 |cons x r=>rw[key,Lib.join_cons]
theorem qn6:∀(f n:Nat),n<10 ^ f→0<f→decN f n=Lib.decDigits n
 |0,n,_,h0=>absurd h0 (by omega)
 |f+1,n,h,_=>by
  rw[Lib.decDigits]
  unfold decN
  split
  ·rfl
  ·rename_i hlt
   have hf:0<f:=by
    cases f with
    |zero=>simp at h;omega
    |succ f=>omega
   rw[qn6 f (n/10) (by rw[Nat.div_lt_iff_lt_mul (by omega)];rw[Nat.pow_succ]at h;exact h) hf]
theorem decB_eq (n:Int) (h0: -9223372036854775808≤n) (h1:n≤9223372036854775807):decB n=Lib.itoa n:=by
 unfold decB Lib.itoa
 have hp:(10:Nat) ^ 20=100000000000000000000:=rfl
 split
 ·rw[qn6 20 n.natAbs (by rw[hp];omega) (by omega)]
 ·rw[qn6 20 n.toNat (by rw[hp];omega) (by omega)]
theorem qot {P:Program} [Tabs P] {S:Sh} {h:qaa} {w:World} (k:WR P S h w) {es:List (List AVal)} {tk:Tk} {v:Value} (hv:VR S (.slice es tk) v) {l:List (List UInt8)} (hl:qe6 es=some l):
 (l=[]∧∃a c,v= .slice a 0 c)∨∃(bk o c:Nat) (xs:List ByteArray),l≠[]∧v= .slice (some ⟨bk,o,none⟩) xs.length c∧xs.map (·.data.toList)=l∧xs.length≤c∧bk<w.heap.size∧
  ∀(j:Nat) (x:ByteArray),xs[j]? =some x→w.cell? ⟨bk,o+j,none⟩=some (.string x):=by
 have shape:∀(es:List (List AVal)) (l:List (List UInt8)),qe6 es=some l→es=l.map fun s=>[AVal.str s]:=by
  intro es
  induction es with
  |nil=>intro l h;simp[qe6]at h;subst h;rfl
  |cons e r ih=>
   intro l h
   unfold qe6 at h
   split at h
   ·rename_i e;cases e
   ·rename_i s r' e
    cases e
    cases hr:qe6 r with
    |none=>simp[hr]at h
    |some l'=>simp[hr]at h;subst h;rw[ih l' hr];rfl
   ·cases h
 have he:=shape es l hl
 have hlen:=congrArg List.length he
 cases hv with
 |snil tk e=>
  left;exact⟨by cases l with|nil=>rfl|cons=>simp at hlen,none,0,rfl⟩
 |slice _ _ ad n cap esz vs hn hc hcm hsp hsz h1 hp h2 ht=>
  subst he
  simp at hn
  subst hn
  cases l with
  |nil=>left;exact⟨rfl,some ad,cap,rfl⟩
  |cons s r=>
   right
   have h1s:esz=1:=by have:=hsz [AVal.str s] (by simp);simpa using this.symm
   subst h1s
   have hspot:=hsp (by simp)
   have hread:∀(j:Nat) (u:List UInt8),(s::r)[j]? =some u→∃b:ByteArray,vs j= .string b∧b.data.toList=u∧w.cell? ⟨ad.block,ad.off+j,none⟩=some (.string b):=by
    intro j u hj
    have e1:(List.map (fun s=>[AVal.str s]) (s::r))[j]? =some [.str u]:=by rw[wb,hj];rfl
    have g1:=h1 j [.str u] 0 (.str u) e1 rfl
    have g2:=h2 j [.str u] 0 (.str u) e1 rfl
    simp only[Nat.mul_one,Nat.add_zero]at g1 g2
    cases hvs:vs j with
    |string b=>
     rw[hvs]at g1 g2
     cases g2 with
     |str _ _ hb=>exact⟨b,rfl,hb,(k.imm _ _ g1).1⟩
    |_=>rw[hvs]at g2;cases g2
   let f:Nat→ByteArray:=fun j=>match vs j with| .string b=>b|_=>⟨#[]⟩
   refine⟨ad.block,ad.off,cap,(List.range (s::r).length).map f,by simp,?_,?_,by simpa using hc,?_,?_⟩
   ·simp only[wg,List.length_range]
    obtain⟨b1,b2,b3⟩:=ad
    simp at hspot
    subst hspot;rfl
   ·apply List.ext_getElem?
    intro j
    simp only[List.map_map,wb]
    by_cases hj:j<(s::r).length
    ·obtain⟨b,hb,hb2,_⟩:=hread j _ (wa hj)
     rw[wd hj,wa hj]
     simp only[wh,Function.comp,f,hb,hb2]
    ·rw[wc (by simpa using hj),wc (by simpa using hj)];rfl
   ·obtain⟨b,_,_,hb3⟩:=hread 0 s rfl
    exact World.block_lt_of_cell? w ⟨ad.block,ad.off+0,none⟩ hb3
   ·intro j x hx
    rw[wb]at hx
    have hj:j<(s::r).length:=by
     cases hr:(List.range (s::r).length)[j]? with
     |none=>rw[hr]at hx;cases hx
     |some q=>have:=(List.getElem?_eq_some_iff.1 hr).1;simpa using this
    obtain⟨b,hb,hb2,hb3⟩:=hread j _ (wa hj)
    rw[wd hj]at hx
    simp only[wh,Option.some.injEq,f,hb]at hx
    subst hx;exact hb3
theorem join_ok {P:Program} [Tabs P] {f:FuncId}
 (h0:∀(a:Option Addr) (c:Nat) (sep:ByteArray) (w:World),Calls P f #[.slice a 0 c,.string sep] w fun e w'=>e= .returned (.string ⟨#[]⟩)∧w'=w)
 (h1:∀(bk o c:Nat) (xs:List ByteArray) (sep:ByteArray) (w:World) (_:∀(j:Nat) x,xs[j]? =some x→w.cell? ⟨bk,o+j,none⟩=some (.string x)) (_:bk<w.heap.size) (_:xs.length≤140737488355328) (_:xs.length≤c) (_:(Lib.join (xs.map (·.data.toList)) sep.data.toList).length≤140737488355328),
  Calls P f #[.slice (some ⟨bk,o,none⟩) xs.length c,.string sep] w fun e w'=>e= .returned (.string ⟨(Lib.join (xs.map (·.data.toList)) sep.data.toList).toArray⟩)∧Below w.heap.size w w')
 (args:List AVal) (h:qaa) (r:CR) (e:qh0 args h=some r) (S:Sh) (w:World) (vs:Array Value) (k:WR P S h w) (ha:VRl S args vs.toList):Calls P f vs w (qc1 P S h w r):=by
 unfold qh0 at e
 split at e
 ·rename_i es tk sep
  split at e
  ·rename_i l hl
   split at e
   ·rename_i hb
    cases e
    obtain⟨v1,y,hy,g1,ha⟩:=ha.inv_cons
    obtain⟨v2,y2,hy2,g2,ha⟩:=ha.inv_cons
    have hy3:=ha.inv_nil
    subst hy3 hy2
    have hvs:vs= #[v1,v2]:=by apply we.1;rw[hy]
    subst hvs
    cases g2 with
    |str sp _ hsp=>
     rcases qot k g1 hl with⟨rfl,a,c,rfl⟩|⟨bk,o,c,xs,hne,rfl,hxs,hxc,hbk,hcell⟩
     ·refine qbc (h0 a c sp w) ?_
      rintro e w' ⟨rfl,rfl⟩
      exact⟨_,S,rfl,.refl k,.str _ _ rfl⟩
     ·refine qbc (h1 bk o c xs sp w hcell hbk ?_ hxc ?_) ?_
      ·have:=hb.1;rw[←hxs,wg]at this;exact this
      ·rw[hxs,hsp,←qp5];exact hb.2
      ·rintro e w' ⟨rfl,hbl⟩
       exact⟨_,S,rfl,qe5 k hbl,.str _ _ (by rw[hxs,hsp,qp5])⟩
   ·cases e
  ·cases e
 ·cases e
theorem int_ok {P:Program} [Tabs P] {f:FuncId} (tab:∀(S:Sh) (h:qaa) (w:World),WR P S h w→Lib.TabIs P w "internal/strconv.uint64pow10" .u64 Lib.pow10Tab)
 (h1:∀(n:Int) (_: -9223372036854775808≤n) (_:n≤9223372036854775807) (w:World) (_:Lib.TabIs P w "internal/strconv.uint64pow10" .u64 Lib.pow10Tab),
  Calls P f #[.int .i64 n,.int .i64 10] w fun e w'=>e= .returned (.string ⟨(Lib.itoa n).toArray⟩)∧∃k os,w'=Go.Sort.grow (w.drewN k) os)
 (args:List AVal) (h:qaa) (r:CR) (e:qj6 args h=some r) (S:Sh) (w:World) (vs:Array Value) (k:WR P S h w) (ha:VRl S args vs.toList):Calls P f vs w (qc1 P S h w r):=by
 unfold qj6 at e
 split at e
 ·rename_i n
  split at e
  ·rename_i hb
   cases e
   obtain⟨v1,y,hy,g1,ha⟩:=ha.inv_cons
   obtain⟨v2,y2,hy2,g2,ha⟩:=ha.inv_cons
   have hy3:=ha.inv_nil
   subst hy3 hy2
   have hvs:vs= #[v1,v2]:=by apply we.1;rw[hy]
   subst hvs
   cases g1
   cases g2
   refine qbc (h1 n hb.1 hb.2 w (tab S h w k)) ?_
   rintro e w' ⟨rfl,kk,os,rfl⟩
   exact⟨_,S,rfl,qe5 k (Lib.below_grow w.heap.size w (Nat.le_refl _) kk os),.str _ _ (by rw[decB_eq n hb.1 hb.2])⟩
  ·cases e
 ·cases e
theorem qjh (args:List AVal) (h:qaa) (r:CR) (e:qh0 args h=some r):qce h r.eff∧LowC h r:=by
 unfold qh0 at e
 split at e
 ·split at e
  ·split at e
   ·cases e;exact⟨.refl h _,fun v hv=>by cases hv;rfl⟩
   ·cases e
  ·cases e
 ·cases e
theorem qj7 (args:List AVal) (h:qaa) (r:CR) (e:qj6 args h=some r):qce h r.eff∧LowC h r:=by
 unfold qj6 at e
 split at e
 ·split at e
  ·cases e;exact⟨.refl h _,fun v hv=>by cases hv;rfl⟩
  ·cases e
 ·cases e
end Go.Ab
