/- Calls see the blocks that their arguments reach, renumbered: soundness. -/
import Derived.Test.YtlfollkhlephmaaGreatDoorAbOpM
import Derived.Laws.MakeOwn
import Derived.MapKept
set_option linter.unusedSimpArgs false
set_option linter.unusedVariables false
set_option maxRecDepth 100000
set_option maxHeartbeats 4000000
open List renaming mem_of_getElem?→wa,getElem?_eq_some_iff→wb,getD_eq_getElem?_getD→wc,getElem?_eq_getElem→wd,getElem?_append_left→wg,idxOf_lt_length_of_mem→wh,all_eq_true→wk,getElem?_map→wo,getElem?_eq_none→ww,contains_eq_mem→wz,getElem_mem→w5,mem_append→w6,nodup_nil→w8
open Array renaming getElem?_toList→we,getElem?_eq_getElem→wi,length_toList→wq,getElem?_eq_some_iff→ws,getElem_range→w3,getElem?_map→w4
open Bool renaming and_eq_true→wj
open Option renaming map_some→wl,getD_some→wm
open Int renaming toNat_natCast→wt
open Nat renaming le_refl→wu,mul_le_mul→w7,mod_lt→w9
namespace Go.Ab
variable {P:Program} {S:Sh} {h:qaa} {w:World}
theorem qka [Tabs P] (k:WR P S h w) {t:TypeId} {x y:AVal} {vx vy:Value} {r:AVal} {f:Eff} (hx:VR S x vx) (hy:VR S y vy) (e:qc3 P h t x y=some (r,f)):
 ∃v w' S',(Instr.makeSlice t vx vy).run P w= .ok v w'∧Step P S w S' (f.of h) w'∧VR S' r v:=by
 unfold qc3 at e
 split at e
 ·rename_i el k1 n k2 m hel
  have hu:P.underlying t=some (.slice el):=by
   unfold qc2 at hel
   split at hel
   ·rename_i e' he;cases hel;exact he
   ·cases hel
  split at e
  ·rename_i sz by_ z hsz hby hz
   obtain⟨i,hi,hisz⟩:=qdr hsz
   obtain⟨i2,zv,hi2,hzv,hzo⟩:=qeg hz
   rw[hi]at hi2;cases hi2
   have hib:i.bytes=by_:=by simpa[qbj,hi]using hby
   split at e
   ·rename_i hc
    simp only[wj,decide_eq_true_eq,beq_iff_eq]at hc
    obtain⟨⟨⟨⟨⟨rfl,hn0⟩,hnm⟩,hb0⟩,hb1⟩,hzl⟩:=hc
    cases hx
    cases hy
    obtain⟨q,rfl⟩:∃q:Nat,n=q:=⟨n.toNat,by omega⟩
    simp only[wt]at hnm e
    have hqm:q≤1099511627776:=hnm
    have hrz:=qd5 (S:=S) hzo
    have hzs:zv.cells.size=i.size:=by
     have:=hrz.cells.1
     have h2:zv.cells.toList.length=zv.cells.size:=wq
     omega
    have hpos:0<i.size:=by omega
    have hbytes:q*i.bytes≤140737488355328:=by
     rw[hib]
     calc q*by_≤1099511627776*128:=w7 hqm hb1
      _=140737488355328:=by decide
    have hbi:(i.bytes:Int)*(q:Int)≤281474976710656:=by
     have h1:((i.bytes:Int)*(q:Int))=((q*i.bytes:Nat):Int):=by rw[Nat.mul_comm];simp
     rw[h1];omega
    have hrun:=run_make (P:=P) w t el i zv hu hi hzv k1 k2 q q hn0 (Int.le_refl _) hbi (by omega)
    simp only[wt]at hrun
    have hmade:VRl S (List.replicate q z.cells).flatten (madeCells zv.cells (q*i.size)).toList:=by
     have hzc:=hrz.cells
     have hzcl:z.cells.length=i.size:=by omega
     refine⟨by simp[madeCells,hzcl],fun j u v hj hv=> ?_⟩
     have hlt:j<q*i.size:=by
      have:=(wb.1 hj).1
      simpa[hzcl]using this
     rw[qe6 z.cells (by omega) q j (by rw[hzcl];exact hlt)]at hj
     rw[we]at hv
     simp only[madeCells,w4]at hv
     rw[wi (by simpa using hlt)]at hv
     simp only[w3,wl,hzs]at hv
     have hm:j % i.size<zv.cells.size:=by rw[hzs];exact w9 _ hpos
     rw[getElem!_pos zv.cells (j % i.size) hm]at hv
     cases hv
     rw[hzcl]at hj
     exact hzc.2 _ _ _ hj (by rw[we];exact wi hm)
    split at e
    ·cases e
     have hst:=newImm k (C:=madeCells zv.cells (0*i.size)) (T:=el) (X:=[]) (Y:=(madeCells zv.cells (0*i.size)).toList) (by simp)
     refine⟨_,_,_,hrun,hst,?_⟩
     exact VR.made (.nil _ i.size) (fun j v hj=>by simp at hj) rfl (wu _) (by simp[maxLen]) rfl
    ·rename_i q' 
     cases e
     obtain⟨S',h1,h2⟩:=newArr k (C:=madeCells zv.cells ((q'+1)*i.size)) (e:=el) (i:=i) (es:=[]) (X:=[]) (Y:=(madeCells zv.cells ((q'+1)*i.size)).toList) (Z:=[]) (cap:=q'+1) (len:=q'+1) (b:=h.length)
      hi hpos (by simp) (by simp[madeCells]) (.nil S _) hmade (by simp[madeCells]) (by simp) (wu _) (by simp only[maxLen];omega) (by omega) (.inl ⟨rfl,rfl⟩)
     refine⟨_,_,S',hrun,?_,h2⟩
     simpa[Eff.of]using h1
   ·cases e
  ·cases e
 ·cases e
theorem qlp {S:Sh} {z:AVal} {zv:Value} (hrz:VR S z zv) {q sz:Nat} (hzl:z.cells.length=sz) (hpos:0<sz):VRl S (List.replicate q z.cells).flatten (madeCells zv.cells (q*sz)).toList:=by
 have hzc:=hrz.cells
 have hzs:zv.cells.size=sz:=by rw[←hzl,hzc.1,wq]
 refine⟨by simp[madeCells,hzl],fun j u v hj hv=> ?_⟩
 have hlt:j<q*sz:=by
  have:=(wb.1 hj).1
  simpa[hzl]using this
 rw[qe6 z.cells (by omega) q j (by rw[hzl];exact hlt)]at hj
 rw[we]at hv
 simp only[madeCells,w4]at hv
 rw[wi (by simpa using hlt)]at hv
 simp only[w3,wl,hzs]at hv
 have hm:j % sz<zv.cells.size:=by rw[hzs];exact w9 _ hpos
 rw[getElem!_pos zv.cells (j % sz) hm]at hv
 cases hv
 rw[hzl]at hj
 exact hzc.2 _ _ _ hj (by rw[we];exact wi hm)
theorem qms [Tabs P] (k:WR P S h w) {t t2 ty:TypeId} {x y:AVal} {vx vy:Value} {r:AVal} {f:Eff} {ik:IntKind} (h2:P.underlying t2=some (.int ik)) (hx:VR S x vx) (hy:VR S y vy) (e:qgo P h t x y=some (r,f)):
 ∃v w' S',(Builtin.append_ #[t,t2] ty #[vx,vy]).run P w= .ok v w'∧Step P S w S' (f.of h) w'∧VR S' r v:=by
 unfold qgo at e
 split at e
 ·rename_i el k1 n hel
  have hu:P.underlying t=some (.slice el):=by
   unfold qc2 at hel
   split at hel
   ·rename_i e' he;cases hel;exact he
   ·cases hel
  split at e
  ·rename_i sz by_ z hsz hby hz
   obtain⟨i,hi,hisz⟩:=qdr hsz
   obtain⟨i2,zv,hi2,hzv,hzo⟩:=qeg hz
   rw[hi]at hi2;cases hi2
   have hib:i.bytes=by_:=by simpa[qbj,hi]using hby
   split at e
   ·rename_i hc
    simp only[wj,decide_eq_true_eq,beq_iff_eq]at hc
    obtain⟨⟨⟨⟨hn0,hnm⟩,hb0⟩,hb1⟩,hzl⟩:=hc
    cases hy
    obtain⟨q,rfl⟩:∃q:Nat,n=q:=⟨n.toNat,by omega⟩
    simp only[wt]at hnm e
    have hqm:q≤1099511627776:=hnm
    have hq0:0<q:=by omega
    have hrz:=qd5 (S:=S) hzo
    have hzs:zv.cells.size=i.size:=by
     have:=hrz.cells.1
     have h2:zv.cells.toList.length=zv.cells.size:=wq
     omega
    have hpos:0<i.size:=by omega
    have hbytes:q*i.bytes≤140737488355328:=by
     rw[hib]
     calc q*by_≤1099511627776*128:=w7 hqm hb1
      _=140737488355328:=by decide
    have hge:=grownCap_ge w q 0 el
    have hcm:grownCap w q 0 el≤maxLen:=grownCap_le_maxLen w _ 0 el (by simp only[maxLen];omega)
    have hwrap:IntKind.i64.wrap (q:Int)=q:=by rw[IntKind.wrap_i64];omega
    have hl1:¬(281474976710656<(q:Int)*(i.bytes:Int)):=by
     have h1:((q:Int)*(i.bytes:Int))=((q*i.bytes:Nat):Int):=by simp
     rw[h1];omega
    have hn:q≠0:=by omega
    have h63':¬(9223372036854775807<(q:Int)):=by omega
    have h48':¬(281474976710656<Builtin.nextslicecap q 0*i.bytes):=by rw[nextslicecap_zero hq0];omega
    have hneg:¬((q:Int)<0):=by omega
    have hsz0:¬i.size=0:=by omega
    have hqi:¬q*i.size=0:=fun h=>by rcases Nat.mul_eq_zero.1 h with h|h<;>omega
    have hrun:(Builtin.append_ #[t,t2] ty #[vx,.int k1 q]).run P w= .ok (.slice (some ⟨w.heap.size,0,none⟩) q (grownCap w q 0 el))
     (w.drew.alloc (.cells (Builtin.zeroCells zv.cells q++Builtin.zeroCells zv.cells (grownCap w q 0 el-q)) el)):=by
     cases hx with
     |snil=>
      simp[Builtin.append_,run_underlying hu,run_underlying h2,sizeOf,typeInfo,zeroValue,hi,hzv,asInt,asIntOf,hwrap,hneg,hl1,hn,h63',h48',hsz0,Question.forced,run_firstCells_none,newRow,grownCap]
      exact fun h0=>absurd h0 hqi
     |slice _ _ ad n' cap esz vs' hn' hcap hcm' hsp hs' g1 hp g2 ht=>
      simp only[List.length_nil]at hn'
      subst hn'
      have hcl:cap=0:=ht
      subst hcl
      simp[Builtin.append_,run_underlying hu,run_underlying h2,sizeOf,typeInfo,zeroValue,hi,hzv,asInt,asIntOf,hwrap,hneg,hl1,hn,h63',h48',hsz0,Question.forced,Builtin.firstCells,loadCells,loadCellsFrom,newRow,grownCap]
      exact fun h0=>absurd h0 hqi
    cases e
    have hmade:VRl S (List.replicate q z.cells).flatten (Builtin.zeroCells zv.cells q).toList:=by
     have:=qlp hrz (q:=q) (sz:=i.size) (by omega) hpos
     unfold Builtin.zeroCells
     unfold madeCells at this
     rw[hzs]
     rw[hzs]at this
     exact this
    obtain⟨S',h1,h2'⟩:=newArr k.drew (C:=Builtin.zeroCells zv.cells q++Builtin.zeroCells zv.cells (grownCap w q 0 el-q)) (e:=el) (i:=i) (es:=[]) (X:=[]) (Y:=(Builtin.zeroCells zv.cells q).toList) (Z:=(Builtin.zeroCells zv.cells (grownCap w q 0 el-q)).toList) (cap:=grownCap w q 0 el) (len:=q) (b:=h.length)
     hi hpos (by simp) (by simp only[Array.size_append,size_zeroCells,hzs,←Nat.add_mul];congr 1;omega) (.nil S _) hmade (by simp[size_zeroCells,hzs]) (by simp) hge hcm hq0 (.inl ⟨rfl,rfl⟩)
    refine⟨_,_,S',hrun,(Step.drew k).trans ?_,h2'⟩
    simpa[Eff.of]using h1
   ·cases e
  ·cases e
 ·cases e
theorem qmt [Tabs P] (k:WR P S h w) (t:TypeId):
 ∃v w' S',(Instr.makeMap t none).run P w= .ok v w'∧Step P S w S' (h++[.map [] []]) w'∧VR S' (.mref h.length) v:=by
 refine⟨.map (some w.heap.size),w.alloc (.map #[] 0),_,by simp[Instr.makeMap],newR k rfl (fun S' hx hr hM=>⟨w.heap.size,#[],0,hr,qd6,.nil _,.nil _,hM⟩),.mref _ _ (by simp[Sh.withBox])⟩
theorem qjv {d:TypeDesc} {k:AVal} {v:Value} (hv:VR S k v) (e:keyOk d k=true):MapKept.IsKey d v:=by
 unfold keyOk at e
 split at e
 ·cases hv;simpa[MapKept.IsKey]using e
 ·cases hv;trivial
 ·cases e
theorem qdg {d:TypeDesc} {k:AVal} {vk:Value} (hk:VR S k vk):∀(ks:List AVal) (E:List MapEntry) (i:Nat) (r:Option Nat),VRl S ks (E.map (·.key))→qg0 d k ks=some r→
 (r=none∧Instr.findNow d vk E i=some none)∨∃j e,r=some j∧E[j]? =some e∧Instr.findNow d vk E i=some (some (i+j,e.val))∧(∃u,ks[j]? =some u)∧vk=e.key
 |[],E,i,r,hv,e=>by
  cases e
  have:=hv.inv_nil
  simp at this;subst this
  exact .inl ⟨rfl,rfl⟩
 |x::ks,E,i,r,hv,e=>by
  obtain⟨v,y,hE,hxv,hr⟩:=hv.inv_cons
  cases E with
  |nil=>simp at hE
  |cons en E=>
   simp only[List.map_cons,List.cons.injEq]at hE
   obtain⟨rfl,rfl⟩:=hE
   have next:∀(r':Option (Option Nat)),qg0 d k ks=r'→(match r' with|some (some i)=>some (some (i+1))|q=>q)=some r→Instr.sameNow d vk en.key=some false→
    (r=none∧Instr.findNow d vk (en::E) i=some none)∨∃j e,r=some j∧(en::E)[j]? =some e∧Instr.findNow d vk (en::E) i=some (some (i+j,e.val))∧(∃u,(x::ks)[j]? =some u)∧vk=e.key:=by
    intro r' hr' he hs
    split at he
    ·rename_i j
     cases he
     rcases qdg hk ks E (i+1) _ hr hr' with⟨h1,_⟩|⟨j',e',h1,h2,h3,h4,h5⟩
     ·cases h1
     ·cases h1
      exact .inr ⟨j+1,e',rfl,by simpa using h2,by simp[Instr.findNow,hs,h3];omega,by simpa using h4,h5⟩
    ·subst he
     rcases qdg hk ks E (i+1) _ hr hr' with⟨h1,h2⟩|⟨j',e',h1,h2,h3,h4,h5⟩
     ·exact .inl ⟨h1,by simp[Instr.findNow,hs,h2]⟩
     ·subst h1;rename_i hne;exact absurd rfl (hne j')
   unfold qg0 at e
   split at e
   ·rename_i q a m b n
    cases hk
    generalize hek:en.key=ek at hxv
    cases hxv
    split at e
    ·rename_i hab
     subst hab
     split at e
     ·rename_i hmn
      subst hmn
      cases e
      exact .inr ⟨0,en,rfl,rfl,by simp[Instr.findNow,Instr.sameNow,hek],⟨_,rfl⟩,hek.symm⟩
     ·rename_i hmn
      exact next _ rfl e (by rw[hek];simp[Instr.sameNow,hmn])
    ·cases e
   ·rename_i m n
    generalize hek:en.key=ek at hxv
    cases hk with
    |str s1 l1 e1=>cases hxv with
     |str s2 l2 e2=>
      split at e
      ·rename_i hmn
       cases e
       have:s1=s2:=by
        obtain⟨⟨d1⟩⟩:=s1
        obtain⟨⟨d2⟩⟩:=s2
        simp only at e1 e2
        rw[e1,e2,hmn]
       subst this
       have hbb:(s1==s1)=true:=(MapKept.bytes_beq _ _).2 rfl
       exact .inr ⟨0,en,rfl,rfl,by simp[Instr.findNow,Instr.sameNow,hek,hbb],⟨_,rfl⟩,hek.symm⟩
      ·rename_i hmn
       refine next _ rfl e ?_
       rw[hek]
       have:¬s1=s2:=by intro e3;subst e3;exact hmn (e1.symm.trans e2)
       have h2:(s1==s2)=false:=by
        cases hb:s1==s2 with
        |false=>rfl
        |true=>exact absurd ((MapKept.bytes_beq _ _).1 hb) this
       simp[Instr.sameNow,h2]
   ·cases e
theorem qmu [Tabs P] (k:WR P S h w) {t:TypeId} {m x u:AVal} {vm vx:Value} {ok:Bool} (hm:VR S m vm) (hx:VR S x vx) (e:qcw P h t m x ok=some u):
 ∃v,(Instr.lookup t vm vx ok).run P w= .ok v w∧VR S u v:=by
 unfold qcw at e
 split at e
 ·rename_i kt et hu
  split at e
  ·rename_i kd z hkd hz
   split at e
   ·rename_i hko
    have hkey:=qjv hx hko
    obtain⟨vz,hvz,hrz⟩:=qdm hz w S
    have hck:∀b,(Instr.checkKey b 10000 kt vx).run P w= .ok () w:=fun b=>MapKept.run_checkKey hkd hkey b 9999
    have give:∀(a:AVal) (v:Value) (b:Bool),VR S a v→VR S (if ok then .tuple [a,.bool b]else a) (if ok then .tuple #[v,.bool b]else v):=by
     intro a v b h1
     cases ok
     ·exact h1
     ·exact VR.tuple' (.cons h1 (.cons (.bool b) (.nil S)))
    split at e
    ·cases hm
     cases e
     refine⟨if ok then .tuple #[vz,.bool false]else vz,?_,give z vz false hrz⟩
     have hf:(Instr.findKey kt vx []).run P w= .ok none w:=MapKept.run_findKey hkd rfl
     simp[Instr.lookup,run_underlying hu,hck,hf,hvz]
    ·rename_i b
     cases hm with
     |mref _ r hr=>
     split at e
     ·rename_i ks vs hb
      obtain⟨r',E,q,g1,g2,g3,g4,g5⟩:=k.map b ks vs hb
      rw[hr]at g1;cases g1
      split at e
      ·rename_i i hf
       rcases qdg (d:=kd) hx ks E.toList 0 _ g3 hf with⟨h1,_⟩|⟨j,en,h1,h2,h3,_,_⟩
       ·cases h1
       ·cases h1
        split at e
        ·rename_i v hv
         cases e
         have hvr:=g4.2 i v en.val hv (by rw[wo,h2];rfl)
         refine⟨if ok then .tuple #[en.val,.bool true]else en.val,?_,give v _ true hvr⟩
         have hfk:(Instr.findKey kt vx E.toList).run P w= .ok (some (0+i,en.val)) w:=MapKept.run_findKey hkd h3
         simp[Instr.lookup,run_underlying hu,hck,hfk,MapKept.run_getObj_map g2]
        ·cases e
      ·rename_i hf
       rcases qdg (d:=kd) hx ks E.toList 0 _ g3 hf with⟨_,h2⟩|⟨j,en,h1,_⟩
       ·cases e
        refine⟨if ok then .tuple #[vz,.bool false]else vz,?_,give z vz false hrz⟩
        have hfk:(Instr.findKey kt vx E.toList).run P w= .ok none w:=MapKept.run_findKey hkd h2
        simp[Instr.lookup,run_underlying hu,hck,hfk,MapKept.run_getObj_map g2,hvz]
       ·cases h1
      ·cases e
     ·cases e
    ·cases e
   ·cases e
  ·cases e
 ·cases e
theorem qhx [Tabs P] (k:WR P S h w) {t:TypeId} {m x y:AVal} {vm vx vy:Value} {h':qaa} {b:Nat} (hm:VR S m vm) (hx:VR S x vx) (hy:VR S y vy) (e:qdd P h t m x y=some (h',b)):
 ∃w',(Instr.mapUpdate t vm vx vy).run P w= .ok () w'∧Step P S w S h' w':=by
 unfold qdd at e
 split at e
 ·rename_i kt et b0 hu
  cases hm with
  |mref _ r hr=>
  split at e
  ·rename_i kd ks vs hkd hb
   split at e
   ·rename_i hko
    have hkey:=qjv hx hko
    have hck:∀b,(Instr.checkKey b 10000 kt vx).run P w= .ok () w:=fun b=>MapKept.run_checkKey hkd hkey b 9999
    obtain⟨r',E,q,g1,g2,g3,g4,g5⟩:=k.map b0 ks vs hb
    rw[hr]at g1;cases g1
    have hlt:=(ws.1 g2).1
    have put:∀(ks' vs':List AVal) (E':Array MapEntry) (q':Nat),VRl S ks' (E'.toList.map (·.key))→VRl S vs' (E'.toList.map (·.val))→Step P S w S (h.set b0 (.map ks' vs')) { w with heap:=w.heap.setIfInBounds r (.map E' q') }:=by
     intro ks' vs' E' q' h1 h2
     refine setBlk k hb (.inl hr) rfl rfl ⟨rfl,rfl,rfl,by simp⟩ (fun i hi=> ?_) (fun o v ho=>by rw[g5]at ho;cases ho) ⟨r,E',q',hr,?_,h1,h2,g5⟩
     ·show(w.heap.setIfInBounds r _)[i]? =_
      rw[Array.getElem?_setIfInBounds,if_neg (fun e=>hi e.symm)]
     ·show(w.heap.setIfInBounds r _)[r]? =_
      rw[Array.getElem?_setIfInBounds_self_of_lt hlt]
    split at e
    ·rename_i i hf
     cases e
     rcases qdg (d:=kd) hx ks E.toList 0 _ g3 hf with⟨h1,_⟩|⟨j,en,h1,h2,h3,_,h5⟩
     ·cases h1
     ·cases h1
      have hfk:(Instr.findKey kt vx E.toList).run P w= .ok (some (0+i,en.val)) w:=MapKept.run_findKey hkd h3
      rw[we]at h2
      have hsame:(Instr.keyThatStays vx vx).run P w= .ok vx w:=MapKept.run_keyThatStays hkey
      have hkk:∀f:MapEntry→MapEntry,(∀e,E[i]? =some e→(f e).key=e.key)→(E.modify i f).toList.map (·.key)=E.toList.map (·.key):=fun f hf=>MapKept.modify_keys i f hf
      refine⟨_,?_,put ks (vs.set i y) (E.modify i fun e=>{ e with key:=vx,val:=vy }) q ?_ ?_⟩
      ·rw[Nat.zero_add]at hfk
       simp only[Instr.mapUpdate,Sem.run_bind,run_underlying hu,Result.andThen_ok,MapKept.run_getObj_map g2,hck,hfk,h2,wl,wm,←h5,hsame,MapKept.run_setObj_map _ g2]
      ·rw[hkk _ (fun e he=>by rw[h2]at he;cases he;exact h5)];exact g3
      ·have:(E.modify i fun e=>{ e with key:=vx,val:=vy }).toList.map (·.val)=(E.toList.map (·.val)).set i vy:=by
        apply List.ext_getElem?
        intro j
        simp only[wo,we,Array.getElem?_modify,List.getElem?_set]
        by_cases hij:i=j
        ·subst hij
         have hil:i<E.toList.length:=by simpa using(ws.1 h2).1
         have hil2:i<E.size:=by simpa using hil
         simp[h2,hil2]
        ·simp[hij]
       rw[this]
       exact g4.set i hy
    ·rename_i hf
     cases e
     rcases qdg (d:=kd) hx ks E.toList 0 _ g3 hf with⟨_,h2⟩|⟨j,en,h1,_⟩
     ·have hfk:(Instr.findKey kt vx E.toList).run P w= .ok none w:=MapKept.run_findKey hkd h2
      refine⟨_,?_,put (ks++[x]) (vs++[y]) (E.push { key:=vx,val:=vy,born:=q }) (q+1) ?_ ?_⟩
      ·simp only[Instr.mapUpdate,Sem.run_bind,run_underlying hu,Result.andThen_ok,MapKept.run_getObj_map g2,hck,hfk,MapKept.run_setObj_map _ g2]
      ·simpa using g3.append (.cons hx (.nil S))
      ·simpa using g4.append (.cons hy (.nil S))
     ·cases h1
    ·cases e
   ·cases e
  ·cases e
 ·cases e
end Go.Ab
namespace Go.Ab
variable {P:Program}
theorem qcn (σ:Nat→Nat):∀(l:List AVal) (j:Nat),(renL σ l)[j]? =(l[j]?).map (ren σ)
 |[],j=>by simp[renL]
 |v::r,j=>by
  cases j with
  |zero=>simp[renL]
  |succ j=>simpa[renL]using qcn σ r j
theorem qax (σ:Nat→Nat):∀l:List AVal,(renL σ l).length=l.length
 |[]=>rfl
 |v::r=>by simp[renL,qax σ r]
theorem qc1 {l:List AVal} {b:Nat}:b∈qaf l↔∃a∈l,b∈refs a:=by
 induction l with
 |nil=>simp[qaf]
 |cons v r ih=>simp[qaf,ih]
theorem qfa {l:List AVal} {j:Nat} {a:AVal} (h:l[j]? =some a) {b:Nat} (hb:b∈refs a):b∈qaf l:=qc1.2 ⟨a,wa h,hb⟩
mutual
theorem qc5 {σ:Nat→Nat}:∀(a:AVal),(∀b∈refs a,σ b=b)→ren σ a=a
 | .ptr b o,h=>by simp only[ren,h b (by simp[refs])]
 | .slice es .free,h=>rfl
 | .slice es .full,h=>rfl
 | .slice es .zero,h=>rfl
 | .slice es (.own t),h=>by simp only[ren,h t (by simp[refs])]
 | .ms es b n m,h=>by simp only[ren,h b (by simp[refs])]
 | .mptr b o n,h=>by simp only[ren,h b (by simp[refs])]
 | .mref b,h=>by simp only[ren,h b (by simp[refs])]
 | .nilm,h=>rfl
 | .func f a b,h=>by
  simp only[ren]
  rw[qam a (fun x hx=>h x (by simp[refs,hx])),qam b (fun x hx=>h x (by simp[refs,hx]))]
 | .iface t v,h=>by simp only[ren];rw[qc5 v (fun x hx=>h x (by simpa[refs]using hx))]
 | .agg cs,h=>by simp only[ren];rw[qam cs (fun x hx=>h x (by simpa[refs]using hx))]
 | .tuple cs,h=>by simp only[ren];rw[qam cs (fun x hx=>h x (by simpa[refs]using hx))]
 | .undef,_=>rfl
 | .bool _,_=>rfl
 | .int _ _,_=>rfl
 | .str _,_=>rfl
 | .nilp,_=>rfl
 | .eptr _ _,_=>rfl
 | .nilf,_=>rfl
 | .nili,_=>rfl
theorem qam {σ:Nat→Nat}:∀(l:List AVal),(∀b∈qaf l,σ b=b)→renL σ l=l
 |[],_=>rfl
 |v::r,h=>by
  simp only[renL]
  rw[qc5 v (fun x hx=>h x (by simp[qaf,hx])),qam r (fun x hx=>h x (by simp[qaf,hx]))]
end
mutual
theorem qfb {σ τ:Nat→Nat}:∀(a:AVal),(∀b∈refs a,σ b=τ b)→ren σ a=ren τ a
 | .ptr b o,h=>by simp only[ren,h b (by simp[refs])]
 | .slice es .free,h=>rfl
 | .slice es .full,h=>rfl
 | .slice es .zero,h=>rfl
 | .slice es (.own t),h=>by simp only[ren,h t (by simp[refs])]
 | .ms es b n m,h=>by simp only[ren,h b (by simp[refs])]
 | .mptr b o n,h=>by simp only[ren,h b (by simp[refs])]
 | .mref b,h=>by simp only[ren,h b (by simp[refs])]
 | .nilm,h=>rfl
 | .func f a b,h=>by
  simp only[ren]
  rw[qds a (fun x hx=>h x (by simp[refs,hx])),qds b (fun x hx=>h x (by simp[refs,hx]))]
 | .iface t v,h=>by simp only[ren];rw[qfb v (fun x hx=>h x (by simpa[refs]using hx))]
 | .agg cs,h=>by simp only[ren];rw[qds cs (fun x hx=>h x (by simpa[refs]using hx))]
 | .tuple cs,h=>by simp only[ren];rw[qds cs (fun x hx=>h x (by simpa[refs]using hx))]
 | .undef,_=>rfl
 | .bool _,_=>rfl
 | .int _ _,_=>rfl
 | .str _,_=>rfl
 | .nilp,_=>rfl
 | .eptr _ _,_=>rfl
 | .nilf,_=>rfl
 | .nili,_=>rfl
theorem qds {σ τ:Nat→Nat}:∀(l:List AVal),(∀b∈qaf l,σ b=τ b)→renL σ l=renL τ l
 |[],_=>rfl
 |v::r,h=>by
  simp only[renL]
  rw[qfb v (fun x hx=>h x (by simp[qaf,hx])),qds r (fun x hx=>h x (by simp[qaf,hx]))]
end
mutual
theorem qja {σ τ:Nat→Nat}:∀(a:AVal),ren τ (ren σ a)=ren (fun x=>τ (σ x)) a
 | .ptr b o=>rfl
 | .slice es .free=>rfl
 | .slice es .full=>rfl
 | .slice es .zero=>rfl
 | .slice es (.own t)=>rfl
 | .ms es b n m=>rfl
 | .mptr b o n=>rfl
 | .mref b=>rfl
 | .nilm=>rfl
 | .func f a b=>by simp only[ren];rw[qbx a,qbx b]
 | .iface t v=>by simp only[ren];rw[qja v]
 | .agg cs=>by simp only[ren];rw[qbx cs]
 | .tuple cs=>by simp only[ren];rw[qbx cs]
 | .undef=>rfl
 | .bool _=>rfl
 | .int _ _=>rfl
 | .str _=>rfl
 | .nilp=>rfl
 | .eptr _ _=>rfl
 | .nilf=>rfl
 | .nili=>rfl
theorem qbx {σ τ:Nat→Nat}:∀(l:List AVal),renL τ (renL σ l)=renL (fun x=>τ (σ x)) l
 |[]=>rfl
 |v::r=>by simp only[renL];rw[qja v,qbx r]
end
theorem VR.ren {S S':Sh} (σ:Nat→Nat) (hM:∀a v,S.M a=some v→S'.M a=some v) {a:AVal} {v:Value} (k:VR S a v):
 (∀b∈refs a,(∀r,S.ρ b=some r→S'.ρ (σ b)=some r)∧∀x,S.τ b=some x→S'.τ (σ b)=some x)→VR S' (Go.Ab.ren σ a) v:=by
 have pure0:∀a:AVal,qaq a=true→refs a=[]:=fun a h=>by
  unfold qaq at h;simp only[wj]at h;simpa using h.2
 have pure1:∀a:AVal,qaq a=true→Go.Ab.ren σ a=a:=fun a h=>qc5 a (by rw[pure0 a h];simp)
 induction k with
 |undef=>intro _;exact .undef
 |bool b=>intro _;exact .bool b
 |int k n=>intro _;exact .int k n
 |str s l e=>intro _;exact .str s l e
 |nilp=>intro _;exact .nilp
 |ptr b o r e=>intro h;exact .ptr _ o r ((h b (by simp[refs])).1 r e)
 |eptr cs o r o0 vs h1 hp _ ih=>
  intro _
  refine .eptr cs o r o0 vs (fun j a hj=>hM _ _ (h1 j a hj)) hp (fun j a hj=> ?_)
  have hpa:=hp a (wa hj)
  have:=ih j a hj (by rw[pure0 a hpa];simp)
  rwa [pure1 a hpa]at this
 |slice es tk ad m cap esz vs hn hc hcm hsp hsz h1 hp _ ht ih=>
  intro h
  have h2:∀(i:Nat) (c:List AVal) (j:Nat) (a:AVal),es[i]? =some c→c[j]? =some a→VR S' a (vs (i*esz+j)):=by
   intro i c j a hi hj
   have hpa:=hp c (wa hi) a (wa hj)
   have:=ih i c j a hi hj (by rw[pure0 a hpa];simp)
   rwa [pure1 a hpa]at this
  cases tk with
  |free=>exact .slice es _ ad m cap esz vs hn hc hcm hsp hsz (fun i c j a hi hj=>hM _ _ (h1 i c j a hi hj)) hp h2 trivial
  |full=>exact .slice es _ ad m cap esz vs hn hc hcm hsp hsz (fun i c j a hi hj=>hM _ _ (h1 i c j a hi hj)) hp h2 ht
  |zero=>exact .slice es _ ad m cap esz vs hn hc hcm hsp hsz (fun i c j a hi hj=>hM _ _ (h1 i c j a hi hj)) hp h2 trivial
  |own t=>
   obtain⟨r,c,l,t1,t2⟩:=ht
   exact .slice es _ ad m cap esz vs hn hc hcm hsp hsz (fun i c j a hi hj=>hM _ _ (h1 i c j a hi hj)) hp h2 ⟨r,c,l,(h t (by simp[refs])).2 _ t1,t2⟩
 |snil tk e=>intro h;rcases e with rfl|rfl<;>exact .snil _ (by simp)
 |ms es b n m ad cap _ hn hm hc hcm ht hsp ih=>
  intro h
  obtain⟨r,c,l,t1,t2⟩:=ht
  exact .ms es _ n m ad cap (ih (fun b hb=>by simp[refs]at hb)) hn hm hc hcm ⟨r,c,l,(h b (by simp[refs])).2 _ t1,t2⟩ hsp
 |mptr b o n r0 o' e=>
  intro h
  obtain⟨r,c,l,t1,t2⟩:=e
  exact .mptr _ o n r0 o' ⟨r,c,l,(h b (by simp[refs])).2 _ t1,t2⟩
 |mref b r e=>intro h;exact .mref _ r ((h b (by simp[refs])).1 r e)
 |nilm=>intro _;exact .nilm
 |func f x y p q hx hy _ _ i1 i2=>
  intro h
  simp only[Go.Ab.ren]
  refine .func f _ _ p q (by rw[qax];exact hx) (by rw[qax];exact hy) (fun j u v hu hv=> ?_) (fun j u v hu hv=> ?_)
  ·rw[qcn]at hu
   cases ha:x[j]? with
   |none=>simp[ha]at hu
   |some a=>simp[ha]at hu;subst hu;exact i1 j a v ha hv (fun b hb=>h b (by simp only[refs,w6];exact .inl (qfa ha hb)))
  ·rw[qcn]at hu
   cases ha:y[j]? with
   |none=>simp[ha]at hu
   |some a=>simp[ha]at hu;subst hu;exact i2 j a v ha hv (fun b hb=>h b (by simp only[refs,w6];exact .inr (qfa ha hb)))
 |nilf=>intro _;exact .nilf
 |iface t a v _ ih=>intro h;exact .iface t _ v (ih (fun b hb=>h b (by simpa[refs]using hb)))
 |nili=>intro _;exact .nili
 |agg x p hx _ ih=>
  intro h
  simp only[Go.Ab.ren]
  refine .agg _ p (by rw[qax];exact hx) (fun j u v hu hv=> ?_)
  rw[qcn]at hu
  cases ha:x[j]? with
  |none=>simp[ha]at hu
  |some a=>simp[ha]at hu;subst hu;exact ih j a v ha hv (fun b hb=>h b (by simp only[refs];exact qfa ha hb))
 |tuple x p hx _ ih=>
  intro h
  simp only[Go.Ab.ren]
  refine .tuple _ p (by rw[qax];exact hx) (fun j u v hu hv=> ?_)
  rw[qcn]at hu
  cases ha:x[j]? with
  |none=>simp[ha]at hu
  |some a=>simp[ha]at hu;subst hu;exact ih j a v ha hv (fun b hb=>h b (by simp only[refs];exact qfa ha hb))
theorem VRl.ren {S S':Sh} (σ:Nat→Nat) (hM:∀a v,S.M a=some v→S'.M a=some v) {l:List AVal} {x:List Value} (k:VRl S l x)
 (h:∀b∈qaf l,(∀r,S.ρ b=some r→S'.ρ (σ b)=some r)∧∀x,S.τ b=some x→S'.τ (σ b)=some x):VRl S' (renL σ l) x:=by
 refine⟨by rw[qax];exact k.1,fun j u v hu hv=> ?_⟩
 rw[qcn]at hu
 cases ha:l[j]? with
 |none=>simp[ha]at hu
 |some a=>simp[ha]at hu;subst hu;exact(k.2 j a v ha hv).ren σ hM (fun b hb=>h b (qfa ha hb))
theorem qdh (h:qaa):∀(n:Nat) (todo done:List Nat),done.Nodup→(qaw h n todo done).Nodup
 |0,_,done,hd=>hd
 |n+1,[],done,hd=>hd
 |n+1,b::r,done,hd=>by
  unfold qaw
  split
  ·exact qdh h n r done hd
  ·rename_i hc
   have hnd:(done++[b]).Nodup:=by
    rw[List.nodup_append]
    refine⟨hd,by simp,fun a ha c hc'=> ?_⟩
    simp at hc';subst hc'
    intro e;subst e
    rw[wz]at hc
    simp[ha]at hc
   split<;>exact qdh h n _ _ hnd
theorem qby {idx:List Nat} {b:Nat} (h:b∈idx):idx[idx.idxOf b]? =some b:=by
 rw[wd (wh h)]
 simp
theorem qb3 {idx:List Nat} (hn:idx.Nodup) {i b:Nat} (h:idx[i]? =some b):idx.idxOf b=i:=by
 have hi:=(wb.1 h).1
 have:=qby (wa h)
 have h2:=(List.getElem?_inj hi hn).1 (h.trans this.symm)
 exact h2.symm
theorem qes (idx:List Nat) (n:Nat) (h':qaa):∀(d:List Nat) (h:qaa),(qch idx n h' d h).length=h.length
 |[],h=>rfl
 |i::r,h=>by
  unfold qch
  rw[qes idx n h' r]
  split<;>simp
theorem qdb (idx:List Nat) (n:Nat) (h':qaa) {b:Nat}:∀(d:List Nat) (h:qaa),(∀i∈d,idx[i]? ≠some b)→(qch idx n h' d h)[b]? =h[b]?
 |[],h,_=>rfl
 |i::r,h,hd=>by
  unfold qch
  rw[qdb idx n h' r _ (fun j hj=>hd j (by simp[hj]))]
  split
  ·rename_i c x hc _
   rw[List.getElem?_set_ne]
   intro e;subst e
   exact hd i (by simp) hc
  ·rfl
theorem qh2 (idx:List Nat) (hn:idx.Nodup) (n:Nat) (h':qaa) {b i:Nat} {x:Blk} (hb:idx[i]? =some b) (hx:h'[i]? =some x):∀(d:List Nat) (h:qaa),i∈d→b<h.length→
 (qch idx n h' d h)[b]? =some (renB (qa3 n idx) x)
 |[],h,hi,_=>by cases hi
 |j::r,h,hi,hl=>by
  unfold qch
  by_cases hir:i∈r
  ·exact qh2 idx hn n h' hb hx r _ hir (by split<;>simpa using hl)
  ·have hij:i=j:=by
    rcases List.mem_cons.1 hi with h|h
    ·exact h
    ·exact absurd h hir
   subst hij
   rw[qdb]
   ·simp only[hb,hx]
    exact List.getElem?_set_self hl
   ·intro k hk e
    have e2:k=i:=(qb3 hn e).symm.trans (qb3 hn hb)
    exact hir (by rw[←e2];exact hk)
theorem renB_back {idx:List Nat} {x:Blk} (hx:∀c∈qbv x,c∈idx) (n:Nat):renB (qa3 n idx) (renB (fun y=>idx.idxOf y) x)=x:=by
 have key:∀b∈idx,qa3 n idx (idx.idxOf b)=b:=fun b hb=>by
  have h1:=qby hb
  have h2:=wh hb
  simp only[qa3,h2,if_true,wc,h1,wm]
 cases x with
 |box cs=>
  simp only[renB]
  rw[qbx,qam cs (fun b hb=>key b (hx b hb))]
 |tok l e=>rfl
 |arr p cs l e=>
  simp only[renB]
  rw[qbx,qam cs (fun b hb=>key b (hx b hb))]
 |map ks vs=>
  simp only[renB]
  rw[qbx,qbx,qam ks (fun b hb=>key b (hx b (by simp[qbv,hb]))),qam vs (fun b hb=>key b (hx b (by simp[qbv,hb])))]
theorem BR.renK {S S':Sh} {w w':World} {b b':Nat} {x:Blk} (σ:Nat→Nat) (k:BR P S w b x) (hρ:∀r,S.ρ b=some r→S'.ρ b'=some r) (hτ:∀y,S.τ b=some y→S'.τ b'=some y)
 (hv:∀l X,(∀c∈qaf l,c∈qbv x)→VRl S l X→VRl S' (renL σ l) X) (hw:∀r,Nm S b r→w'.heap[r]? =w.heap[r]?) (hM:∀r o,Nm S b r→S.M ⟨r,o,none⟩=none→S'.M ⟨r,o,none⟩=none):BR P S' w' b' (renB σ x):=by
 cases x with
 |box cs=>obtain⟨r,C,T,h1,h2,h3,h4⟩:=k;exact⟨r,C,T,hρ r h1,(hw r (.inl h1)).trans h2,hv _ _ (fun _ h=>h) h3,fun o=>hM r o (.inl h1) (h4 o)⟩
 |map ks vs=>obtain⟨r,E,q,h1,h2,h3,h4,h5⟩:=k;exact⟨r,E,q,hρ r h1,(hw r (.inl h1)).trans h2,hv _ _ (fun _ h=>by simp[qbv,h]) h3,hv _ _ (fun _ h=>by simp[qbv,h]) h4,fun o=>hM r o (.inl h1) (h5 o)⟩
 |tok len e=>
  obtain⟨r,cap,C,i,h1,h2,h3,h4,h5,h6,h7,h8⟩:=k
  exact⟨r,cap,C,i,hτ _ h1,(hw r (.inr ⟨_,_,h1⟩)).trans h2,h3,h4,h5,h6,h7,fun o ho=>hM r o (.inr ⟨_,_,h1⟩) (h8 o ho)⟩
 |arr p cs len e=>
  obtain⟨r,cap,C,i,h1,h2,h3,h4,h5,h6,h7,h8,h9,h10⟩:=k
  refine⟨r,cap,C,i,hτ _ h1,(hw r (.inr ⟨_,_,h1⟩)).trans h2,h3,h4,h5,h6,h7,by rw[qax];exact h8,?_,fun o ho=>hM r o (.inr ⟨_,_,h1⟩) (h10 o ho)⟩
  rw[qax]
  exact hv _ _ (fun _ h=>h) h9
theorem qg6 (σ:Nat→Nat) (x:Blk):(renB σ x).isR=x.isR:=by cases x<;>rfl
theorem qjb (σ:Nat→Nat) (x:Blk):(renB σ x).tl=x.tl:=by cases x<;>rfl
end Go.Ab
namespace Go.Ab
variable {P:Program} {call:Call}
def qco (P:Program) [Tabs P] (S:Sh) (h:qaa) (w:World) (r:CR) (e:Ending) (w':World):Prop:=
 match r with
 | .ret u f=>∃v S',e= .returned v∧Step P S w S' (f.of h) w'∧VR S' u v
 | .pan u f=>∃v S',e= .panicked [{ v,recovered:=false }]∧Step P S w S' (f.of h) w'∧VR S' u v
def KeepH (h h':qaa) (d:List Nat):Prop:=h.length≤h'.length∧∀b,b<h.length→b∉d→h'[b]? =h[b]?
theorem KeepH.refl (h:qaa) (d:List Nat):KeepH h h d:=⟨wu _,fun _ _ _=>rfl⟩
def qbo (h:qaa) (f:Eff):Prop:=KeepH h (f.of h) f.dirt
def qay (P:Program) [Tabs P] (call:Call):Prop:=
 ∀(f:FuncId) (args:List AVal) (h:qaa) (r:CR),call f args h=some r→
  (∃fn,P.funcs[f]? =some fn∧fn.body.isSome=true∧(fn.name== "runtime.NumGoroutine")=false)∧
  ∀(S:Sh) (w:World) (vs:Array Value),WR P S h w→VRl S args vs.toList→Calls P f vs w (qco P S h w r)
def CR.eff:CR→Eff
 | .ret _ e=>e
 | .pan _ e=>e
def LowC (h:qaa) (r:CR):Prop:=∀v,r= .ret v .same→lowA h.length v=true
def qaj (call:Call):Prop:=∀f args h r,call f args h=some r→qbo h r.eff∧LowC h r
theorem qa0 {f:FuncId} {args:Array Value} {w:World} {R R':Ending→World→Prop} (hc:Calls P f args w R) (hr:∀e w',R e w'→R' e w'):Calls P f args w R':=
 fun cs=>let⟨e,w',fr,r,s⟩:=hc cs;⟨e,w',fr,hr _ _ r,s⟩
def Sh.sub (S:Sh) (idx:List Nat):Sh:={ M:=S.M,ρ:=fun i=>(idx[i]?).bind S.ρ,τ:=fun i=>(idx[i]?).bind S.τ,F:=S.F }
def Sh.back (S S1:Sh) (n:Nat) (idx:List Nat):Sh:=
 { M:=S1.M,ρ:=fun b=>if b<n then S.ρ b else S1.ρ (idx.length+(b-n)),τ:=fun b=>if b<n then(if b∈idx then S1.τ (idx.idxOf b)else S.τ b)else S1.τ (idx.length+(b-n)),F:=S.F }
structure qjc (h:qaa) (idx:List Nat):Prop where
 nd:idx.Nodup
 blk:∀b∈idx,∃x,h[b]? =some x∧∀c∈qbv x,c∈idx
theorem qfv {h:qaa} {idx:List Nat} {args:List AVal} (hn:idx.Nodup) (e:qcs h idx args=true):qjc h idx∧∀b∈qaf args,b∈idx:=by
 unfold qcs at e
 simp only[wj,wk,wz,decide_eq_true_eq]at e
 refine⟨⟨hn,fun b hb=> ?_⟩,e.1⟩
 have:=e.2 b hb
 cases hx:h[b]? with
 |none=>simp[hx]at this
 |some x=>simp only[hx,wk,decide_eq_true_eq]at this;exact⟨x,rfl,this⟩
theorem qet {h:qaa} {idx:List Nat} {i b:Nat} {x:Blk} (hi:idx[i]? =some b) (hx:h[b]? =some x):(subH h idx)[i]? =some (renB (fun y=>idx.idxOf y) x):=by
 unfold subH
 rw[wo,hi]
 simp[wc,hx]
theorem qdw (h:qaa) (idx:List Nat):(subH h idx).length=idx.length:=by simp[subH]
theorem subH_inv {h:qaa} {idx:List Nat} (ok:qjc h idx) {i:Nat} {y:Blk} (hy:(subH h idx)[i]? =some y):∃b x,idx[i]? =some b∧h[b]? =some x∧(∀c∈qbv x,c∈idx)∧y=renB (fun z=>idx.idxOf z) x:=by
 have hi:i<idx.length:=by have:=(wb.1 hy).1;rwa [qdw]at this
 obtain⟨x,hx,hr⟩:=ok.blk idx[i] (w5 hi)
 have:=qet (wd hi) hx
 rw[hy]at this
 exact⟨idx[i],x,wd hi,hx,hr,Option.some.inj this⟩
theorem qgr {S:Sh} {idx:List Nat} {b:Nat} (hb:b∈idx):(∀r,S.ρ b=some r→(S.sub idx).ρ (idx.idxOf b)=some r)∧∀x,S.τ b=some x→(S.sub idx).τ (idx.idxOf b)=some x:=by
 have h1:=qby hb
 exact⟨fun r hr=>by simp only[Sh.sub,h1];exact hr,fun x hx=>by simp only[Sh.sub,h1];exact hx⟩
theorem qkz [Tabs P] {S:Sh} {h:qaa} {w:World} (k:WR P S h w) {idx:List Nat} (ok:qjc h idx):WR P (S.sub idx) (subH h idx) w:=by
 have gρ:∀i r,(S.sub idx).ρ i=some r→∃b,idx[i]? =some b∧S.ρ b=some r:=by
  intro i r hi
  simp only[Sh.sub]at hi
  cases hb:idx[i]? with
  |none=>simp[hb]at hi
  |some b=>simp[hb]at hi;exact⟨b,rfl,hi⟩
 have gτ:∀i x,(S.sub idx).τ i=some x→∃b,idx[i]? =some b∧S.τ b=some x:=by
  intro i r hi
  simp only[Sh.sub]at hi
  cases hb:idx[i]? with
  |none=>simp[hb]at hi
  |some b=>simp[hb]at hi;exact⟨b,rfl,hi⟩
 constructor
 ·exact k.imm
 ·intro i y hi
  obtain⟨b,x,h1,h2,h3,rfl⟩:=subH_inv ok hi
  exact(k.blk b x h2).renK _ (fun r hr=>by simp only[Sh.sub,h1];exact hr) (fun z hz=>by simp only[Sh.sub,h1];exact hz) (fun l X hl h=>h.ren (S:=S) (S':=S.sub idx) _ (fun _ _ h=>h) (fun c hc=>qgr (h3 c (hl c hc)))) (fun _ _=>rfl) (fun _ _ _ h=>h)
 ·intro i r hi
  obtain⟨b,h1,h2⟩:=gρ i r hi
  obtain⟨x,h3,h4⟩:=k.ρdom b r h2
  exact⟨_,qet h1 h3,by rw[qg6];exact h4⟩
 ·intro i x hi
  obtain⟨b,h1,h2⟩:=gτ i x hi
  obtain⟨y,h3,h4⟩:=k.τdom b x h2
  exact⟨_,qet h1 h3,by rw[qjb];exact h4⟩
 ·intro i i' r hi hi'
  obtain⟨b,h1,h2⟩:=gρ i r hi
  obtain⟨b',h1',h2'⟩:=gρ i' r hi'
  have:=k.injρ b b' r h2 h2'
  subst this
  exact(qb3 ok.nd h1).symm.trans (qb3 ok.nd h1')
 ·intro i i' r c c' l l' hi hi'
  obtain⟨b,h1,h2⟩:=gτ i _ hi
  obtain⟨b',h1',h2'⟩:=gτ i' _ hi'
  have:=k.injτ b b' r c c' l l' h2 h2'
  subst this
  exact(qb3 ok.nd h1).symm.trans (qb3 ok.nd h1')
 ·intro i i' r c l hi hi'
  obtain⟨b,h1,h2⟩:=gρ i _ hi
  obtain⟨b',h1',h2'⟩:=gτ i' _ hi'
  exact k.apart b b' r c l h2 h2'
 ·intro x o hx
  obtain⟨h1,h2,h3⟩:=k.frz x o hx
  refine⟨h1,fun i hi=> ?_,fun i c l hi=> ?_⟩
  ·obtain⟨b,_,g⟩:=gρ i x hi;exact h2 b g
  ·obtain⟨b,_,g⟩:=gτ i _ hi;exact h3 b c l g
 ·exact k.laid
structure BackH (h:qaa) (idx:List Nat) (h1 h2:qaa):Prop where
 len:h.length≤h2.length
 inn:∀i b:Nat,idx[i]? =some b→h2[b]? =(h1[i]?).map (renB (qa3 h.length idx))
 out:∀b,b<h.length→b∉idx→h2[b]? =h[b]?
 new:∀b,h.length≤b→h2[b]? =(h1[idx.length+(b-h.length)]?).map (renB (qa3 h.length idx))
theorem qkb {h:qaa} {idx:List Nat} (ok:qjc h idx) {f:Eff} (hk:qbo (subH h idx) f):BackH h idx (f.of (subH h idx)) ((qct h idx f).of h):=by
 have hlt:∀(i b:Nat),idx[i]? =some b→b<h.length:=fun i b hb=>by
  obtain⟨x,hx,_⟩:=ok.blk b (wa hb)
  exact(wb.1 hx).1
 have hold:∀(i b:Nat),idx[i]? =some b→h[b]? =((subH h idx)[i]?).map (renB (qa3 h.length idx)):=by
  intro i b hb
  obtain⟨x,hx,hr⟩:=ok.blk b (wa hb)
  rw[qet hb hx,hx]
  simp only[wl,renB_back hr]
 cases f with
 |same=>
  refine⟨wu _,hold,fun _ _ _=>rfl,fun b hb=> ?_⟩
  simp only[qct,Eff.of]
  rw[ww hb,ww (by rw[qdw];omega)]
  rfl
 |heap h' d=>
  simp only[qct,Eff.of]
  have hpl:=qes idx h.length h' d h
  have hl':idx.length≤h'.length:=by have:=hk.1;rw[qdw]at this;exact this
  refine⟨by rw[List.length_append,hpl];omega,fun i b hb=> ?_,fun b hb hn=> ?_,fun b hb=> ?_⟩
  ·rw[wg (by rw[hpl];exact hlt i b hb)]
   have hi:=(wb.1 hb).1
   by_cases hd:i∈d
   ·rw[qh2 idx ok.nd h.length h' hb (wd (by omega)) d h hd (hlt i b hb),wd (by omega)]
    rfl
   ·rw[qdb]
    ·rw[hold i b hb,←hk.2 i (by rw[qdw];exact hi) hd]
     rfl
    ·intro j hj e
     have:=(qb3 ok.nd e).symm.trans (qb3 ok.nd hb)
     subst this;exact hd hj
  ·rw[wg (by rw[hpl];exact hb),qdb]
   intro j _ e
   exact hn (wa e)
  ·rw[List.getElem?_append_right (by rw[hpl];exact hb),hpl,wo,List.getElem?_drop]
theorem back_wr [Tabs P] {S S1:Sh} {h h1 h2:qaa} {w w':World} {idx:List Nat} (k:WR P S h w) (ok:qjc h idx) (st:Step P (S.sub idx) w S1 h1 w') (bk:BackH h idx h1 h2):
 Step P S w (S.back S1 h.length idx) h2 w'∧(∀{a:AVal} {v:Value},VR S1 a v→VR (S.back S1 h.length idx) (ren (qa3 h.length idx) a) v):=by
 have hlt:∀(i b:Nat),idx[i]? =some b→b<h.length:=fun i b hb=>by
  obtain⟨x,hx,_⟩:=ok.blk b (wa hb)
  exact(wb.1 hx).1
 have k1:=st.wr
 have inρ:∀i b r,idx[i]? =some b→(S1.ρ i=some r↔S.ρ b=some r):=by
  intro i b r hb
  have hsub:(S.sub idx).ρ i=S.ρ b:=by simp only[Sh.sub,hb];rfl
  have hsubτ:(S.sub idx).τ i=S.τ b:=by simp only[Sh.sub,hb];rfl
  constructor
  ·intro h3
   obtain⟨x,hx,_⟩:=ok.blk b (wa hb)
   rcases x.r_or_t with⟨hr,_⟩|⟨_,l,ht⟩
   ·obtain⟨r0,g1,_⟩:=(k.blk b x hx).nameR hr
    have:=st.ext.ρ i r0 (by rw[hsub];exact g1)
    rw[h3]at this;cases this;exact g1
   ·exfalso
    obtain⟨r0,c0,g1,_⟩:=(k.blk b x hx).nameT ht
    obtain⟨r',c',l',g2,_⟩:=st.ext.τ i r0 c0 l (by rw[hsubτ];exact g1)
    obtain⟨y,g3,g3'⟩:=k1.ρdom i r h3
    obtain⟨y',g4,g4'⟩:=k1.τdom i _ g2
    rw[g3]at g4;cases g4
    rcases y.r_or_t with⟨_,q⟩|⟨q,_⟩
    ·rw[q]at g4';cases g4'
    ·rw[q]at g3';cases g3'
  ·intro h3;exact st.ext.ρ i r (by rw[hsub];exact h3)
 have bρ:∀b r,(S.back S1 h.length idx).ρ b=some r→(b<h.length∧S.ρ b=some r)∨(h.length≤b∧S1.ρ (idx.length+(b-h.length))=some r):=by
  intro b r hb
  simp only[Sh.back]at hb
  split at hb
  ·exact .inl ⟨‹_›,hb⟩
  ·exact .inr ⟨by omega,hb⟩
 have bτ:∀b x,(S.back S1 h.length idx).τ b=some x→(b<h.length∧b∈idx∧S1.τ (idx.idxOf b)=some x)∨(b<h.length∧b∉idx∧S.τ b=some x)∨(h.length≤b∧S1.τ (idx.length+(b-h.length))=some x):=by
  intro b x hb
  simp only[Sh.back]at hb
  split at hb
  ·split at hb
   ·exact .inl ⟨‹_›,‹_›,hb⟩
   ·exact .inr (.inl ⟨‹_›,‹_›,hb⟩)
  ·exact .inr (.inr ⟨by omega,hb⟩)
 have sub0:∀q,(S.sub idx).ρ (idx.length+q)=none∧(S.sub idx).τ (idx.length+q)=none:=fun q=>by
  simp[Sh.sub]
 have hM2:∀a,(S.back S1 h.length idx).M a=S1.M a:=fun _=>rfl
 have hext:Ex S w.heap.size (S.back S1 h.length idx):=by
  refine⟨st.ext.M,fun b r hb=> ?_,fun t r c l ht=> ?_,fun b r hb=> ?_,fun t r c l ht=> ?_,fun a v ha=> ?_,rfl⟩
  ·simp only[Sh.back];rw[if_pos (k.lt hb).1];exact hb
  ·have htl:=(k.ltτ ht).1
   by_cases hm:t∈idx
   ·have h3:=(qgr (S:=S) hm).2 _ ht
    obtain⟨r',c',l',g1,g2⟩:=st.ext.τ _ _ _ _ h3
    exact⟨r',c',l',by simp only[Sh.back];rw[if_pos htl,if_pos hm];exact g1,g2⟩
   ·exact⟨r,c,l,by simp only[Sh.back];rw[if_pos htl,if_neg hm];exact ht,.inr ⟨rfl,rfl,rfl⟩⟩
  ·rcases bρ b r hb with⟨_,h3⟩|⟨_,h3⟩
   ·exact .inl h3
   ·rcases st.ext.newρ _ _ h3 with h4|h4
    ·rw[(sub0 _).1]at h4;cases h4
    ·exact .inr h4
  ·rcases bτ t _ ht with⟨_,hm,h3⟩|⟨_,_,h3⟩|⟨_,h3⟩
   ·rcases st.ext.newτ _ _ _ _ h3 with⟨c0,l0,h4⟩|h4
    ·refine .inl ⟨c0,l0,?_⟩
     simp only[Sh.sub,qby hm]at h4
     exact h4
    ·exact .inr h4
   ·exact .inl ⟨c,l,h3⟩
   ·rcases st.ext.newτ _ _ _ _ h3 with⟨c0,l0,h4⟩|h4
    ·rw[(sub0 _).2]at h4;cases h4
    ·exact .inr h4
  ·rcases st.ext.newM a v ha with h3|h3|⟨t,c,l,h3⟩
   ·exact .inl h3
   ·exact .inr (.inl h3)
   ·simp only[Sh.sub]at h3
    cases hb:idx[t]? with
    |none=>simp[hb]at h3
    |some b=>simp[hb]at h3;exact .inr (.inr ⟨b,c,l,h3⟩)
 have back:∀{a:AVal} {v:Value},VR S1 a v→VR (S.back S1 h.length idx) (ren (qa3 h.length idx) a) v:=by
  intro a v hv
  refine hv.ren (S:=S1) (S':=S.back S1 h.length idx) _ (fun _ _ h=>h) (fun i _=>⟨fun r hr=> ?_,fun x hx=> ?_⟩)
  ·simp only[qa3]
   split
   ·rename_i hi
    have hb:=wd hi
    rw[wc,hb,wm]
    simp only[Sh.back]
    rw[if_pos (hlt i _ hb)]
    exact(inρ i _ r hb).1 hr
   ·simp only[Sh.back]
    rw[if_neg (by omega),show idx.length+(h.length+(i-idx.length)-h.length)=i by omega]
    exact hr
  ·simp only[qa3]
   split
   ·rename_i hi
    have hb:=wd hi
    rw[wc,hb,wm]
    simp only[Sh.back]
    rw[if_pos (hlt i _ hb),if_pos (w5 hi),qb3 ok.nd hb]
    exact hx
   ·simp only[Sh.back]
    rw[if_neg (by omega),show idx.length+(h.length+(i-idx.length)-h.length)=i by omega]
    exact hx
 have backl:∀{l:List AVal} {x:List Value},VRl S1 l x→VRl (S.back S1 h.length idx) (renL (qa3 h.length idx) l) x:=by
  intro l x hl
  refine⟨by rw[qax];exact hl.1,fun j u v hu hv=> ?_⟩
  rw[qcn]at hu
  cases ha:l[j]? with
  |none=>simp[ha]at hu
  |some a=>simp[ha]at hu;subst hu;exact back (hl.2 j a v ha hv)
 have keepB:∀b r,b∉idx→(S.ρ b=some r∨∃c l,S.τ b=some (r,c,l))→w'.heap[r]? =w.heap[r]? :=by
  intro b r hn hb
  have hr:r<w.heap.size:=by
   rcases hb with hb|⟨c,l,hb⟩
   ·exact(k.lt hb).2
   ·exact(k.ltτ hb).2
  refine st.fr.block r hr (fun i hi=> ?_) (fun i c l hi=> ?_)
  ·simp only[Sh.sub]at hi
   cases hq:idx[i]? with
   |none=>simp[hq]at hi
   |some q=>
    simp[hq]at hi
    rcases hb with hb|⟨c,l,hb⟩
    ·have:=k.injρ q b r hi hb;subst this;exact hn (wa hq)
    ·exact k.apart q b r c l hi hb
  ·simp only[Sh.sub]at hi
   cases hq:idx[i]? with
   |none=>simp[hq]at hi
   |some q=>
    simp[hq]at hi
    rcases hb with hb|⟨c',l',hb⟩
    ·exact k.apart b q r c l hb hi
    ·have:=k.injτ q b r c c' l l' hi hb;subst this;exact hn (wa hq)
 have keepM:∀b r o,b∉idx→(S.ρ b=some r∨∃c l,S.τ b=some (r,c,l))→S.M ⟨r,o,none⟩=none→S1.M ⟨r,o,none⟩=none:=by
  intro b r o hn hb hM
  have hr:r<w.heap.size:=by
   rcases hb with hb|⟨c,l,hb⟩
   ·exact(k.lt hb).2
   ·exact(k.ltτ hb).2
  cases hv:S1.M ⟨r,o,none⟩with
  |none=>rfl
  |some v=>
   exfalso
   rcases st.ext.newM _ v hv with h3|h3|⟨t,c,l,h3⟩
   ·have h4:S.M ⟨r,o,none⟩=some v:=h3
    rw[hM]at h4;cases h4
   ·simp at h3;omega
   ·simp only[Sh.sub]at h3
    cases hq:idx[t]? with
    |none=>simp[hq]at h3
    |some q=>
     simp[hq]at h3
     rcases hb with hb|⟨c',l',hb⟩
     ·exact k.apart b q r c l hb h3
     ·have:=k.injτ q b r c c' l l' h3 hb;subst this;exact hn (wa hq)
 have hfr:Fr S w w':=by
  refine⟨st.fr.os,st.fr.tape,st.fr.output,st.fr.size,fun q hq g1 g2=>st.fr.block q hq (fun i hi=> ?_) (fun i c l hi=> ?_)⟩
  ·simp only[Sh.sub]at hi
   cases hb:idx[i]? with
   |none=>simp[hb]at hi
   |some b=>simp[hb]at hi;exact g1 b hi
  ·simp only[Sh.sub]at hi
   cases hb:idx[i]? with
   |none=>simp[hb]at hi
   |some b=>simp[hb]at hi;exact g2 b c l hi
 refine⟨⟨hext,hfr,?_⟩,back⟩
 constructor
 ·exact k1.imm
 ·intro b y hb
  by_cases hbl:b<h.length
  ·by_cases hm:b∈idx
   ·have hi:=qby hm
    rw[bk.inn _ _ hi]at hb
    cases hx:h1[idx.idxOf b]? with
    |none=>simp[hx]at hb
    |some x=>
     simp only[hx,wl,Option.some.injEq]at hb
     subst hb
     exact(k1.blk _ x hx).renK _ (fun r hr=>by simp only[Sh.back];rw[if_pos hbl];exact(inρ _ _ r hi).1 hr) (fun z hz=>by simp only[Sh.back];rw[if_pos hbl,if_pos hm];exact hz) (fun l X _ h=>backl h) (fun _ _=>rfl) (fun _ _ _ h=>h)
   ·rw[bk.out b hbl hm]at hb
    exact(k.blk b y hb).keep (fun r hr=>by simp only[Sh.back];rw[if_pos hbl];exact hr) (fun z hz=>by simp only[Sh.back];rw[if_pos hbl,if_neg hm];exact hz) (fun _ _ h=>h.ext hext) (fun r hr=>keepB b r hm hr) (fun r o hr h=>keepM b r o hm hr h)
  ·rw[bk.new b (by omega)]at hb
   cases hx:h1[idx.length+(b-h.length)]? with
   |none=>simp[hx]at hb
   |some x=>
    simp only[hx,wl,Option.some.injEq]at hb
    subst hb
    exact(k1.blk _ x hx).renK _ (fun r hr=>by simp only[Sh.back];rw[if_neg hbl];exact hr) (fun z hz=>by simp only[Sh.back];rw[if_neg hbl];exact hz) (fun l X _ h=>backl h) (fun _ _=>rfl) (fun _ _ _ h=>h)
 ·intro b r hb
  rcases bρ b r hb with⟨hbl,h3⟩|⟨hbl,h3⟩
  ·by_cases hm:b∈idx
   ·have hi:=qby hm
    obtain⟨x,h4,h5⟩:=k1.ρdom _ r ((inρ _ _ r hi).2 h3)
    exact⟨_,by rw[bk.inn _ _ hi,h4];rfl,by rw[qg6];exact h5⟩
   ·obtain⟨x,h4,h5⟩:=k.ρdom b r h3
    exact⟨x,by rw[bk.out b hbl hm];exact h4,h5⟩
  ·obtain⟨x,h4,h5⟩:=k1.ρdom _ r h3
   exact⟨_,by rw[bk.new b hbl,h4];rfl,by rw[qg6];exact h5⟩
 ·intro b x hb
  rcases bτ b x hb with⟨hbl,hm,h3⟩|⟨hbl,hm,h3⟩|⟨hbl,h3⟩
  ·obtain⟨y,h4,h5⟩:=k1.τdom _ x h3
   exact⟨_,by rw[bk.inn _ _ (qby hm),h4];rfl,by rw[qjb];exact h5⟩
  ·obtain⟨y,h4,h5⟩:=k.τdom b x h3
   exact⟨y,by rw[bk.out b hbl hm];exact h4,h5⟩
  ·obtain⟨y,h4,h5⟩:=k1.τdom _ x h3
   exact⟨_,by rw[bk.new b hbl,h4];rfl,by rw[qjb];exact h5⟩
 ·intro b b' r hb hb'
  have fresh:∀q,S1.ρ (idx.length+q)=some r→w.heap.size≤r:=fun q hq=>by
   rcases st.ext.newρ _ _ hq with h4|h4
   ·rw[(sub0 _).1]at h4;cases h4
   ·exact h4
  rcases bρ b r hb with⟨h3,h4⟩|⟨h3,h4⟩
  ·rcases bρ b' r hb' with⟨h5,h6⟩|⟨h5,h6⟩
   ·exact k.injρ b b' r h4 h6
   ·have:=fresh _ h6;have:=(k.lt h4).2;omega
  ·rcases bρ b' r hb' with⟨h5,h6⟩|⟨h5,h6⟩
   ·have:=fresh _ h4;have:=(k.lt h6).2;omega
   ·have:=k1.injρ _ _ r h4 h6;omega
 ·intro b b' r c c' l l' hb hb'
  have fresh:∀q c l,S1.τ (idx.length+q)=some (r,c,l)→w.heap.size≤r:=fun q c l hq=>by
   rcases st.ext.newτ _ _ _ _ hq with⟨_,_,h4⟩|h4
   ·rw[(sub0 _).2]at h4;cases h4
   ·exact h4
  have known:∀b c l,b∈idx→S1.τ (idx.idxOf b)=some (r,c,l)→(∃c0 l0,S.τ b=some (r,c0,l0))∨w.heap.size≤r:=fun b c l hm hq=>by
   rcases st.ext.newτ _ _ _ _ hq with⟨c0,l0,h4⟩|h4
   ·simp only[Sh.sub,qby hm]at h4;exact .inl ⟨c0,l0,h4⟩
   ·exact .inr h4
  rcases bτ b _ hb with⟨h3,hm,h4⟩|⟨h3,hm,h4⟩|⟨h3,h4⟩
  ·rcases bτ b' _ hb' with⟨h5,hm',h6⟩|⟨h5,hm',h6⟩|⟨h5,h6⟩
   ·have:=k1.injτ _ _ r c c' l l' h4 h6
    have e1:=qby hm
    have e2:=qby hm'
    rw[this,e2]at e1
    exact(Option.some.inj e1).symm
   ·exfalso
    rcases known b c l hm h4 with⟨c0,l0,h7⟩|h7
    ·have:=k.injτ b b' r c0 c' l0 l' h7 h6;subst this;exact hm' hm
    ·have:=(k.ltτ h6).2;omega
   ·exfalso
    have:=k1.injτ _ _ r c c' l l' h4 h6
    have:=wh hm
    omega
  ·rcases bτ b' _ hb' with⟨h5,hm',h6⟩|⟨h5,hm',h6⟩|⟨h5,h6⟩
   ·exfalso
    rcases known b' c' l' hm' h6 with⟨c0,l0,h7⟩|h7
    ·have:=k.injτ b b' r c c0 l l0 h4 h7;subst this;exact hm hm'
    ·have:=(k.ltτ h4).2;omega
   ·exact k.injτ b b' r c c' l l' h4 h6
   ·have:=fresh _ _ _ h6;have:=(k.ltτ h4).2;omega
  ·rcases bτ b' _ hb' with⟨h5,hm',h6⟩|⟨h5,hm',h6⟩|⟨h5,h6⟩
   ·exfalso
    have:=k1.injτ _ _ r c c' l l' h4 h6
    have:=wh hm'
    omega
   ·have:=fresh _ _ _ h4;have:=(k.ltτ h6).2;omega
   ·have:=k1.injτ _ _ r c c' l l' h4 h6;omega
 ·intro b b' r c l hb hb'
  rcases bρ b r hb with⟨h3,h4⟩|⟨h3,h4⟩
  ·rcases bτ b' _ hb' with⟨h5,hm',h6⟩|⟨h5,hm',h6⟩|⟨h5,h6⟩
   ·by_cases hm:b∈idx
    ·exact k1.apart _ _ r c l ((inρ _ _ r (qby hm)).2 h4) h6
    ·rcases st.ext.newτ _ _ _ _ h6 with⟨c0,l0,h7⟩|h7
     ·simp only[Sh.sub,qby hm']at h7
      exact k.apart b b' r c0 l0 h4 h7
     ·have:=(k.lt h4).2;omega
   ·exact k.apart b b' r c l h4 h6
   ·rcases st.ext.newτ _ _ _ _ h6 with⟨c0,l0,h7⟩|h7
    ·rw[(sub0 _).2]at h7;cases h7
    ·have:=(k.lt h4).2;omega
  ·rcases bτ b' _ hb' with⟨h5,hm',h6⟩|⟨h5,hm',h6⟩|⟨h5,h6⟩
   ·exact k1.apart _ _ r c l h4 h6
   ·rcases st.ext.newρ _ _ h4 with h7|h7
    ·rw[(sub0 _).1]at h7;cases h7
    ·have:=(k.ltτ h6).2;omega
   ·exact k1.apart _ _ r c l h4 h6
 ·exact qc4 k hext hfr
 ·exact qdl k hext
theorem qog [Tabs P] (hcall:qay P call) (hkeep:qaj call) {g:FuncId} {args:List AVal} {h:qaa} {r:CR} (e:qba call h g args=some r):
 (∃fn,P.funcs[g]? =some fn∧fn.body.isSome=true∧(fn.name== "runtime.NumGoroutine")=false)∧
 ∀(S:Sh) (w:World) (vs:Array Value),WR P S h w→VRl S args vs.toList→Calls P g vs w (qco P S h w r):=by
 unfold qba at e
 simp only at e
 generalize hidx:qaw h 256 (qaf args) []=idx at e
 have hnd:idx.Nodup:=by rw[←hidx];exact qdh h _ _ _ w8
 split at e
 ·rename_i hok
  obtain⟨ok,hargs⟩:=qfv hnd hok
  split at e
  ·rename_i v f hr
   cases e
   obtain⟨h1,h2⟩:=hcall _ _ _ _ hr
   refine⟨h1,fun S w vs k ha=>qa0 (h2 (S.sub idx) w vs (qkz k ok) (ha.ren (S:=S) (S':=S.sub idx) _ (fun _ _ h=>h) (fun b hb=>qgr (hargs b hb)))) ?_⟩
   rintro e' w' ⟨u,S1,rfl,st,hv⟩
   obtain⟨g1,g2⟩:=back_wr k ok st (qkb ok (hkeep _ _ _ _ hr).1)
   exact⟨u,_,rfl,g1,g2 hv⟩
  ·rename_i v f hr
   cases e
   obtain⟨h1,h2⟩:=hcall _ _ _ _ hr
   refine⟨h1,fun S w vs k ha=>qa0 (h2 (S.sub idx) w vs (qkz k ok) (ha.ren (S:=S) (S':=S.sub idx) _ (fun _ _ h=>h) (fun b hb=>qgr (hargs b hb)))) ?_⟩
   rintro e' w' ⟨u,S1,rfl,st,hv⟩
   obtain⟨g1,g2⟩:=back_wr k ok st (qkb ok (hkeep _ _ _ _ hr).1)
   exact⟨u,_,rfl,g1,g2 hv⟩
  ·cases e
 ·cases e
theorem qk0 {h:qaa} {idx:List Nat} (ok:qjc h idx) {f:Eff} (hk:qbo (subH h idx) f):qbo h (qct h idx f):=by
 cases f with
 |same=>exact KeepH.refl _ _
 |heap h' d=>
  have bk:=qkb ok hk
  refine⟨bk.len,fun b hb hd=> ?_⟩
  simp only[qct,Eff.of,Eff.dirt]at hd ⊢
  rw[wg (by rw[qes];exact hb),qdb]
  intro i hi e
  refine hd (List.mem_map.2 ⟨i,hi,?_⟩)
  have:=(wb.1 e).1
  simp only[qa3,this,if_true,wc,e,wm]
theorem qpm (hkeep:qaj call) {g:FuncId} {args:List AVal} {h:qaa} {r:CR} (e:qba call h g args=some r):qbo h r.eff:=by
 unfold qba at e
 simp only at e
 generalize hidx:qaw h 256 (qaf args) []=idx at e
 have hnd:idx.Nodup:=by rw[←hidx];exact qdh h _ _ _ w8
 split at e
 ·rename_i hok
  obtain⟨ok,hargs⟩:=qfv hnd hok
  split at e
  ·rename_i v f hr;cases e;exact qk0 ok (hkeep _ _ _ _ hr).1
  ·rename_i v f hr;cases e;exact qk0 ok (hkeep _ _ _ _ hr).1
  ·cases e
 ·cases e
theorem qh3 {h:qaa} {b:Nat}:∀(n:Nat) (l done:List Nat),b∈done→b∈qaw h n l done
 |0,_,_,hb=>by unfold qaw;exact hb
 |n+1,[],_,hb=>by unfold qaw;exact hb
 |n+1,c::r,done,hb=>by
  unfold qaw
  split
  ·exact qh3 n _ _ hb
  ·split<;>exact qh3 n _ _ (List.mem_append_left _ hb)
theorem qdn {h t:qaa}:∀(n:Nat) (l done:List Nat),(∀b∈qaw h n l done,b<h.length)→qaw (h++t) n l done=qaw h n l done
 |0,_,_,_=>by unfold qaw;rfl
 |n+1,[],_,_=>by unfold qaw;rfl
 |n+1,c::r,done,hb=>by
  unfold qaw at hb ⊢
  split
  ·rename_i hc
   rw[if_pos hc]at hb
   exact qdn n _ _ hb
  ·rename_i hc
   rw[if_neg hc]at hb
   have hlt:c<h.length:=by
    split at hb<;>exact hb c (qh3 n _ _ (by simp))
   rw[wg hlt]
   cases hx:h[c]? with
   |none=>rw[hx]at hb;exact qdn n _ _ hb
   |some x=>
    rw[hx]at hb
    cases x with
    |box cs=>exact qdn n _ _ hb
    |tok l e=>exact qdn n _ _ hb
    |arr p cs l e=>exact qdn n _ _ hb
    |map ks vs=>exact qdn n _ _ hb
theorem callA_app (hkeep:qaj call) {g:FuncId} {args:List AVal} {h t:qaa} {v:AVal} (e:qba call h g args=some (.ret v .same)):qba call (h++t) g args=some (.ret v .same):=by
 unfold qba at e ⊢
 simp only at e ⊢
 generalize hidx:qaw h 256 (qaf args) []=idx at e
 split at e
 ·rename_i hok
  have hlt:∀b∈idx,b<h.length:=by
   intro b hb
   unfold qcs at hok
   simp only[wj]at hok
   have:=wk.1 hok.2 b hb
   split at this
   ·rename_i x hx;exact(wb.1 hx).1
   ·cases this
  have hre:qaw (h++t) 256 (qaf args) []=idx:=by rw[qdn _ _ _ (by rw[hidx];exact hlt),hidx]
  have hget:∀b∈idx,(h++t)[b]? =h[b]? :=fun b hb=>wg (hlt b hb)
  have hsub:subH (h++t) idx=subH h idx:=by
   unfold subH
   refine List.map_congr_left (fun b hb=> ?_)
   rw[wc,wc,hget b hb]
  have hok2:qcs (h++t) idx args=true:=by
   unfold qcs at hok ⊢
   simp only[wj]at hok ⊢
   refine⟨hok.1,?_⟩
   refine wk.2 (fun b hb=> ?_)
   have:=wk.1 hok.2 b hb
   rw[hget b hb];exact this
  rw[hre,if_pos hok2,hsub]
  split at e
  ·rename_i v0 e0 hr
   cases e0 with
   |same=>
    simp only[qct,Option.some.injEq,CR.ret.injEq,and_true]at e ⊢
    have hl:=(hkeep _ _ _ _ hr).2 v0 rfl
    rw[qdw]at hl
    unfold lowA at hl
    rw[←e]
    refine qfb v0 (fun b hb=> ?_)
    have:=wk.1 hl b hb
    simp only[decide_eq_true_eq]at this
    simp only[qa3,this,if_true]
   |heap h' d=>simp only[qct,Option.some.injEq,CR.ret.injEq]at e;cases e.2
  ·cases e
  ·cases e
 ·cases e
end Go.Ab
