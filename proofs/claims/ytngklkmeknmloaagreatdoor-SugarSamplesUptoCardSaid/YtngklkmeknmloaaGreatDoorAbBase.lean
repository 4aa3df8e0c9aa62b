/- What is asked of the program holds. -/
import Derived.Test.YtngklkmeknmloaaGreatDoorChecked
import Derived.Test.YtngklkmeknmloaaGreatDoorAbExt
import Derived.Test.YtngklkmeknmloaaGreatDoorAbExtP
import Derived.Test.YtngklkmeknmloaaGreatDoorAbExtC
import Derived.Test.YtngklkmeknmloaaGreatDoorAbDf
import Derived.Test.YtngklkmeknmloaaGreatDoorAbEqs
import Derived.Test.YtngklkmeknmloaaGreatDoorAbTab
import Derived.Test.YtngklkmeknmloaaGreatDoorAbShelf
set_option linter.unusedSimpArgs false
set_option linter.unusedVariables false
set_option maxRecDepth 100000
set_option maxHeartbeats 4000000
open Go.Proofs
open Option renaming bind_some→wa
open List renaming not_mem_nil→wb,mem_cons→wc
namespace Go.Ab
open Go Go.Proofs
noncomputable abbrev PP:=Tryz.prog
abbrev cmp0:List TypeId:=[29]
instance tabs:Tabs PP:=⟨fun F=>(∃g T fl,PP.globalNamed "internal/strconv.uint64pow10" =some g∧F g=some (.cells (Lib.pow10Tab.map fun z=>Value.int .u64 z).toArray T fl))∧
 ∃g tp p T fl,PP.globalNamed "strconv.ErrRange" =some g∧F g=some (.cells #[.iface tp p] T fl)⟩
abbrev errT:TypeId:=269
abbrev cmp1:List TypeId:=[29,29]
def extM:Ext:=fun f=>if f=107 then some qh0 else if f=101 then some qj6 else if f=236 then some (qep errT)else if f=36 then some (fun _ _=>none)else if f=48 then some (fun _ _=>none)else if f=62 then some qfk else none
def bigF:List FuncId:=[29]
noncomputable def M:Call:=evC PP cmp1 extM
def ext0:Ext:=fun f=>if bigF.contains f then some (fun _ _=>none)else extM f
noncomputable def C:Call:=evC PP cmp0 ext0
noncomputable def ext1:Ext:=fun f=>if f=36 then some (fnF PP cmp0 C lpC 36)else if f=48 then some (fnF PP cmp0 C lpC 48)else if bigF.contains f then some (M f)else ext0 f
noncomputable def D:Call:=evC PP cmp0 ext1
theorem evN_up:∀n,qb7 (evN PP cmp0 ext0 n) (evN PP cmp0 ext1 n)
 |0=>fun f a h r e=>by cases e
 |n+1=>fun f a h r e=>by
  have ih:=evN_up n
  have hx:∀g,ext0 f=some g→g a h=some r→∃g',ext1 f=some g'∧g' a h=some r:=by
   intro g hg hr
   unfold ext1
   by_cases h1:f=36
   ·subst h1;have:g=fun _ _=>none:=by have:ext0 36=some (fun _ _=>none):=rfl;rw[this]at hg;exact(Option.some.inj hg).symm
    subst this;cases hr
   ·by_cases h2:f=48
    ·subst h2;have:g=fun _ _=>none:=by have:ext0 48=some (fun _ _=>none):=rfl;rw[this]at hg;exact(Option.some.inj hg).symm
     subst this;cases hr
    ·rw[if_neg h1,if_neg h2]
     by_cases h3:bigF.contains f=true
     ·unfold ext0 at hg;rw[if_pos h3]at hg;cases hg;cases hr
     ·rw[if_neg h3];exact⟨g,hg,hr⟩
  have hn:ext0 f=none→ext1 f=none:=by
   intro hg
   unfold ext1
   by_cases h1:f=36
   ·subst h1;cases hg
   ·by_cases h2:f=48
    ·subst h2;cases hg
    ·rw[if_neg h1,if_neg h2]
     by_cases h3:bigF.contains f=true
     ·unfold ext0 at hg;rw[if_pos h3]at hg;cases hg
     ·rw[if_neg h3];exact hg
  unfold evN at e ⊢
  split at e
  ·rename_i g hg
   obtain⟨g',h1,h2⟩:=hx g hg e
   rw[h1];exact h2
  ·rename_i hg
   rw[hn hg]
   exact qj3 ih (qeu (Nat.le_refl n)) _ _ _ _ e
theorem up {f:FuncId} {a:List AVal} {h:qaa} {r:CR} (e:C f a h=some r):D f a h=some r:=by
 obtain⟨n,hn⟩:=qdl e
 exact qhy (evN_up n _ _ _ _ hn)
theorem D_fn {f:FuncId} {fn:Func} {c:Code} (hx:ext1 f=none) (hf:PP.funcs[f]? =some fn) (hb:fn.body=some c) (hd:qb9 c=true) {a:List AVal} {h:qaa} {m:Nat} (hm:fn.ntmps-a.length=m):
 D f a h=fin PP h.length fn.results.toList (qar PP cmp0 D lpC c ⟨a++List.replicate m .undef,h,[]⟩):=by
 rw[←hm]
 exact evC_fn hx hf hb hd a h
theorem ext_parse:ext0 236=some (qep errT):=rfl
theorem C_fn {f:FuncId} {fn:Func} {c:Code} (hx:ext0 f=none) (hf:PP.funcs[f]? =some fn) (hb:fn.body=some c) (hd:qb9 c=true) {a:List AVal} {h:qaa} {m:Nat} (hm:fn.ntmps-a.length=m):
 C f a h=fin PP h.length fn.results.toList (qar PP cmp0 C lpC c ⟨a++List.replicate m .undef,h,[]⟩):=by
 rw[←hm]
 exact evC_fn hx hf hb hd a h
theorem D_big {n:Nat} {f:FuncId} (hf:bigF.contains f=true) (h1:f≠36) (h2:f≠48) {a:List AVal} {h:qaa} {r:CR} (e:evN PP cmp1 extM n f a h=some r):D f a h=some r:=by
 unfold D
 rw[qfj (show ext1 f=some (M f) by unfold ext1;rw[if_neg h1,if_neg h2,if_pos hf])]
 exact qhy e
theorem C_of {n:Nat} {f:FuncId} {a:List AVal} {h:qaa} {r:CR} (e:evN PP cmp0 ext0 n f a h=some r):C f a h=some r:=qhy e
end Go.Ab
namespace Go.Ab
open Go Go.Proofs Go.RowKit
theorem tab_ok (S:Sh) (h:qaa) (w:World) (k:WR PP S h w):Lib.TabIs PP w "internal/strconv.uint64pow10" .u64 Lib.pow10Tab:=by
 obtain⟨⟨g,T,fl,hg,hF⟩,_⟩:=k.laid
 have:=(k.frz g _ hF).1
 unfold Lib.TabIs World.var?
 rw[hg,wa,this]
theorem rng_ok (S:Sh) (h:qaa) (w:World) (k:WR PP S h w):∃tp p,w.var? PP "strconv.ErrRange" =some #[.iface tp p]:=by
 obtain⟨_,g,tp,p,T,fl,hg,hF⟩:=k.laid
 have:=(k.frz g _ hF).1
 refine⟨tp,p,?_⟩
 unfold World.var?
 rw[hg,wa,this]
theorem prog_ok:qfy PP cmp0 where
 mix:=by kernel_rfl
 cmp:=by
  intro t ht
  simp only[wc,wb,or_false]at ht
  subst ht
  kernel_rfl
 name:=by
  have h:(PP.funcs.all fun fn=> !(fn.name== "runtime.NumGoroutine"))=true:=by kernel_rfl
  intro f fn hf
  obtain⟨hlt,e⟩:=Array.getElem?_eq_some_iff.1 hf
  have:=(Array.all_eq_true.1 h) f hlt
  rw[e]at this
  simpa using this
theorem extM_ok:ExtOk PP extM where
 call:=by
  intro f g hg args h r e
  unfold extM at hg
  split at hg
  ·rename_i hf
   subst hf
   cases hg
   exact⟨⟨_,Tryz.func107,by kernel_rfl⟩,fun S w vs k ha=>join_ok Tryz.strings_Join_none Tryz.strings_Join args h r e S w vs k ha⟩
  ·split at hg
   ·rename_i hf
    subst hf
    cases hg
    exact⟨⟨_,Tryz.func101,by kernel_rfl⟩,fun S w vs k ha=>int_ok tab_ok Tryz.strconv_FormatInt_10 args h r e S w vs k ha⟩
   ·split at hg
    ·rename_i hf
     subst hf
     cases hg
     refine⟨⟨_,Tryz.func236,by kernel_rfl⟩,fun S w vs k ha=>parse_ok rng_ok ?_ ?_ args h r e S w vs k ha⟩
     ·intro s hs v hv w
      refine qbc (Tryz.strconv_ParseInt_10_at64_ok s hs v hv w) ?_
      rintro e w' ⟨rfl,rfl|⟨t,rfl⟩⟩
      ·exact⟨rfl,Below.refl _ _⟩
      ·exact⟨rfl,Lib.bytesWorld_below _ _ _⟩
     ·intro s hs hv tp p w hvar
      refine qbc (Tryz.strconv_ParseInt_10_at64_range_var s hs hv tp p w hvar) ?_
      rintro e w' ⟨N,rfl,_,_,hb⟩
      exact⟨N,rfl,hb⟩
    ·split at hg
     ·cases hg;cases e
     ·split at hg
      ·cases hg;cases e
      ·split at hg
       ·rename_i hf
        subst hf
        cases hg
        exact⟨⟨_,Tryz.func62,by kernel_rfl⟩,fun S w vs k ha=>clone_ok Tryz.slices_Clone_string Tryz.slices_Clone_string_nil Tryz.slices_Clone_string_zero args h r e S w vs k ha⟩
       ·cases hg
 keep:=by
  intro f g hg args h r e
  unfold extM at hg
  split at hg
  ·cases hg;exact qjh args h r e
  ·split at hg
   ·cases hg;exact qj7 args h r e
   ·split at hg
    ·cases hg;exact qh1 errT args h r e
    ·split at hg
     ·cases hg;cases e
     ·split at hg
      ·cases hg;cases e
      ·split at hg
       ·cases hg;exact qh2 args h r e
       ·cases hg
theorem ext_ok:ExtOk PP ext0 where
 call:=by
  intro f g hg args h r e
  unfold ext0 at hg
  split at hg
  ·cases hg;cases e
  ·exact extM_ok.call f g hg args h r e
 keep:=by
  intro f g hg args h r e
  unfold ext0 at hg
  split at hg
  ·cases hg;cases e
  ·exact extM_ok.keep f g hg args h r e
theorem qqt:qfy PP cmp1 where
 mix:=prog_ok.mix
 cmp:=fun t ht=>prog_ok.cmp t (by
  simp only[wc,wb,or_false,or_self]at ht ⊢
  exact ht)
 name:=prog_ok.name
theorem M_ok:qbd PP M:=evC_ok qqt extM_ok
theorem M_keep:qan M:=fun f a h r e=>by
 obtain⟨n,hn⟩:=qdl e
 exact(qnl qqt extM_ok n).2 f a h r hn
theorem call_ok:qbd PP C:=evC_ok prog_ok ext_ok
theorem qhk:qan C:=fun f a h r e=>by
 obtain⟨n,hn⟩:=qdl e
 exact(qnl prog_ok ext_ok n).2 f a h r hn
theorem ext1_ok:ExtOk PP ext1 where
 call:=by
  intro f g hg args h r e
  unfold ext1 at hg
  split at hg
  ·rename_i hf
   subst hf
   cases hg
   obtain⟨⟨fn,h1,h2,_⟩,h3⟩:=qov prog_ok call_ok qhk qhz _ args h r e
   exact⟨⟨fn,h1,h2⟩,h3⟩
  ·split at hg
   ·rename_i hf
    subst hf
    cases hg
    obtain⟨⟨fn,h1,h2,_⟩,h3⟩:=qov prog_ok call_ok qhk qhz _ args h r e
    exact⟨⟨fn,h1,h2⟩,h3⟩
   ·split at hg
    ·cases hg
     obtain⟨⟨fn,h1,h2,_⟩,h3⟩:=M_ok _ args h r e
     exact⟨⟨fn,h1,h2⟩,h3⟩
    ·exact ext_ok.call f g hg args h r e
 keep:=by
  intro f g hg args h r e
  unfold ext1 at hg
  split at hg
  ·cases hg;exact qp8 qhk qhz _ args h r e
  ·split at hg
   ·cases hg;exact qp8 qhk qhz _ args h r e
   ·split at hg
    ·cases hg;exact M_keep _ args h r e
    ·exact ext_ok.keep f g hg args h r e
theorem callD_ok:qbd PP D:=evC_ok prog_ok ext1_ok
end Go.Ab
