/- What stands for strings.Join and strconv.FormatInt. -/
import Derived.Test.YtlfollkhlephmaaGreatDoorAbLim
import Derived.Lib.Join
import Derived.Lib.ItoaNum
import Derived.Lib.LaidTab
import Derived.Lib.AppendIntMem
set_option linter.unusedSimpArgs false
set_option linter.unusedVariables false
set_option maxRecDepth 100000
set_option maxHeartbeats 4000000
open List renaming getElem?_eq_getElem→wa,getElem?_map→wb,getElem?_eq_none→wc,getElem?_range→wd
open Option renaming map_some→we
namespace Go.Ab
open Go.RowKit
theorem qhl {P:Program} [Tabs P] {S:Sh} {h:qaa} {w w':World} (k:WR P S h w) (hb:Below w.heap.size w w'):Step P S w S h w':=by
 have hf:Fr S w w':=⟨hb.os,hb.tape,hb.output,hb.size,fun i hi _ _=>hb.block i hi⟩
 have hx:Ex S w.heap.size S:= .refl S _
 have hc:∀a v,w.cell? a=some v→w'.cell? a=some v:=fun a v ha=>by
  have hlt:=World.block_lt_of_cell? w a ha
  have:=hb.block a.block hlt
  unfold World.cell? at ha ⊢
  rw[this];exact ha
 refine⟨hx,hf,?_⟩
 constructor
 ·exact fun a v ha=>⟨hc a v (k.imm a v ha).1,(k.imm a v ha).2⟩
 ·intro b x hbb
  exact(k.blk b x hbb).keep (fun _ h=>h) (fun _ h=>h) (fun _ _ h=>h) (fun r hr=>hb.block r (k.ltN hr).2) (fun _ _ _ h=>h)
 ·exact k.ρdom
 ·exact k.τdom
 ·exact k.injρ
 ·exact k.injτ
 ·exact k.apart
 ·exact qc4 k hx hf
 ·exact k.laid
def qhm:List (List AVal)→Option (List (List UInt8))
 |[]=>some []
 |[.str s]::r=>(qhm r).map (s:: ·)
 |_=>none
def extMax:Nat:=140737488355328
theorem strs_read {P:Program} [Tabs P] {S:Sh} {h:qaa} {w:World} (k:WR P S h w) {es:List (List AVal)} {tk:Tk} {v:Value} (hv:VR S (.slice es tk) v) {l:List (List UInt8)} (hl:qhm es=some l):
 (l=[]∧∃a c,v= .slice a 0 c)∨∃(bk o c:Nat) (xs:List ByteArray),l≠[]∧v= .slice (some ⟨bk,o,none⟩) xs.length c∧xs.map (·.data.toList)=l∧xs.length≤c∧bk<w.heap.size∧
  ∀(j:Nat) (x:ByteArray),xs[j]? =some x→w.cell? ⟨bk,o+j,none⟩=some (.string x):=by
 have shape:∀(es:List (List AVal)) (l:List (List UInt8)),qhm es=some l→es=l.map fun s=>[AVal.str s]:=by
  intro es
  induction es with
  |nil=>intro l h;simp[qhm]at h;subst h;rfl
  |cons e r ih=>
   intro l h
   unfold qhm at h
   split at h
   ·rename_i e;cases e
   ·rename_i s r' e
    cases e
    cases hr:qhm r with
    |none=>simp[hr]at h
    |some l'=>simp[hr]at h;subst h;rw[ih l' hr];rfl
   ·cases h
 have he:=shape es l hl
 have hlen:=congrArg List.length he
 cases hv with
 |snil tk e=>
  left;exact⟨by cases l with|nil=>rfl|cons=>simp at hlen,none,0,rfl⟩
 |slice _ _ ad n cap esz vs hn hc hcm hsp hsz h1 hp h2 ht=>
  subst he
  simp at hn
  subst hn
  cases l with
  |nil=>left;exact⟨rfl,some ad,cap,rfl⟩
  |cons s r=>
   right
   have h1s:esz=1:=by have:=hsz [AVal.str s] (by simp);simpa using this.symm
   subst h1s
   have hspot:=hsp (by simp)
   have hread:∀(j:Nat) (u:List UInt8),(s::r)[j]? =some u→∃b:ByteArray,vs j= .string b∧b.data.toList=u∧w.cell? ⟨ad.block,ad.off+j,none⟩=some (.string b):=by
    intro j u hj
    have e1:(List.map (fun s=>[AVal.str s]) (s::r))[j]? =some [.str u]:=by rw[wb,hj];rfl
    have g1:=h1 j [.str u] 0 (.str u) e1 rfl
    have g2:=h2 j [.str u] 0 (.str u) e1 rfl
    simp only[Nat.mul_one,Nat.add_zero]at g1 g2
    cases hvs:vs j with
    |string b=>
     rw[hvs]at g1 g2
     cases g2 with
     |str _ _ hb=>exact⟨b,rfl,hb,(k.imm _ _ g1).1⟩
    |_=>rw[hvs]at g2;cases g2
   let f:Nat→ByteArray:=fun j=>match vs j with| .string b=>b|_=>⟨#[]⟩
   refine⟨ad.block,ad.off,cap,(List.range (s::r).length).map f,by simp,?_,?_,by simpa using hc,?_,?_⟩
   ·simp only[List.length_map,List.length_range]
    obtain⟨b1,b2,b3⟩:=ad
    simp at hspot
    subst hspot;rfl
   ·apply List.ext_getElem?
    intro j
    simp only[List.map_map,wb]
    by_cases hj:j<(s::r).length
    ·obtain⟨b,hb,hb2,_⟩:=hread j _ (wa hj)
     rw[wd hj,wa hj]
     simp only[we,Function.comp,f,hb,hb2]
    ·rw[wc (by simpa using hj),wc (by simpa using hj)];rfl
   ·obtain⟨b,_,_,hb3⟩:=hread 0 s rfl
    exact World.block_lt_of_cell? w ⟨ad.block,ad.off+0,none⟩ hb3
   ·intro j x hx
    rw[wb]at hx
    have hj:j<(s::r).length:=by
     cases hr:(List.range (s::r).length)[j]? with
     |none=>rw[hr]at hx;cases hx
     |some q=>have:=(List.getElem?_eq_some_iff.1 hr).1;simpa using this
    obtain⟨b,hb,hb2,hb3⟩:=hread j _ (wa hj)
    rw[wd hj]at hx
    simp only[we,Option.some.injEq,f,hb]at hx
    subst hx;exact hb3
end Go.Ab
