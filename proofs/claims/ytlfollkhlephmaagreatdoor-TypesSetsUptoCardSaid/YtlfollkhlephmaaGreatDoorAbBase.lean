/- What is asked of the program holds. -/
import Derived.Test.YtlfollkhlephmaaGreatDoorChecked
import Derived.Test.YtlfollkhlephmaaGreatDoorAbExt
import Derived.Test.YtlfollkhlephmaaGreatDoorAbExtP
import Derived.Test.YtlfollkhlephmaaGreatDoorAbExtC
import Derived.Test.YtlfollkhlephmaaGreatDoorAbDf
import Derived.Test.YtlfollkhlephmaaGreatDoorAbEqs
import Derived.Test.YtlfollkhlephmaaGreatDoorAbTab
import Derived.Test.YtlfollkhlephmaaGreatDoorAbShelf
set_option linter.unusedSimpArgs false
set_option linter.unusedVariables false
set_option maxRecDepth 100000
set_option maxHeartbeats 4000000
open Go.Proofs
open Option renaming map_eq_some_iff→wa
open List renaming not_mem_nil→wb,mem_cons→wc
namespace Go.Ab
open Go Go.Proofs
noncomputable abbrev PP:=Tryz.prog
abbrev cmp0:List TypeId:=[42]
instance tabs:Tabs PP:=⟨fun F=>(∃g T fl,PP.globalNamed "internal/strconv.uint64pow10" =some g∧F g=some (.cells (Lib.pow10Tab.map fun z=>Value.int .u64 z).toArray T fl))∧
 ∃g tp p T fl,PP.globalNamed "strconv.ErrRange" =some g∧F g=some (.cells #[.iface tp p] T fl)⟩
abbrev errT:TypeId:=259
abbrev cmp1:List TypeId:=[42,42]
noncomputable def extM:Ext:=fun f=>if f=129 then some (qe0 errT)else if f=77 then some (extCl PP cmp1 77)else if f=21 then some (fun _ _=>none)else none
def extL:Ext:=fun f=>if f=129 then some (qe0 errT)else if f=77 then some qf5 else if f=21 then some (fun _ _=>none)else none
def bigF:List FuncId:=[15]
noncomputable def M:Call:=evC PP cmp1 extM
def frzR (h:qaa):CR→CR
 | .ret v e=> .ret (qav h.length v (e.of h) e.dirt).1 (qav h.length v (e.of h) e.dirt).2
 | .pan v e=> .pan v e
noncomputable def MF:Call:=fun f a h=>(M f a h).map (frzR h)
def ext0:Ext:=fun f=>if bigF.contains f then some (fun _ _=>none)else extL f
noncomputable def C:Call:=evC PP cmp0 ext0
noncomputable def ext1:Ext:=fun f=>if f=21 then some (fnF PP cmp0 C lpC 21)else if bigF.contains f then some (MF f)else ext0 f
noncomputable def D:Call:=evC PP cmp0 ext1
theorem evN_up:∀n,qbt (evN PP cmp0 ext0 n) (evN PP cmp0 ext1 n)
 |0=>fun f a h r e=>by cases e
 |n+1=>fun f a h r e=>by
  have ih:=evN_up n
  have hx:∀g,ext0 f=some g→g a h=some r→∃g',ext1 f=some g'∧g' a h=some r:=by
   intro g hg hr
   unfold ext1
   by_cases h1:f=21
   ·subst h1;have:g=fun _ _=>none:=by have:ext0 21=some (fun _ _=>none):=rfl;rw[this]at hg;exact(Option.some.inj hg).symm
    subst this;cases hr
   ·skip
    rw[if_neg h1]
    by_cases h9:bigF.contains f=true
    ·unfold ext0 at hg;rw[if_pos h9]at hg;cases hg;cases hr
    ·rw[if_neg h9];exact⟨g,hg,hr⟩
  have hn:ext0 f=none→ext1 f=none:=by
   intro hg
   unfold ext1
   by_cases h1:f=21
   ·subst h1;cases hg
   ·skip
    rw[if_neg h1]
    by_cases h9:bigF.contains f=true
    ·unfold ext0 at hg;rw[if_pos h9]at hg;cases hg
    ·rw[if_neg h9];exact hg
  unfold evN at e ⊢
  split at e
  ·rename_i g hg
   obtain⟨g',h1,h2⟩:=hx g hg e
   rw[h1];exact h2
  ·rename_i hg
   rw[hn hg]
   exact qin ih (qeb (Nat.le_refl n)) _ _ _ _ e
theorem up {f:FuncId} {a:List AVal} {h:qaa} {r:CR} (e:C f a h=some r):D f a h=some r:=by
 obtain⟨n,hn⟩:=qem e
 exact qgv (evN_up n _ _ _ _ hn)
theorem D_fn {f:FuncId} {fn:Func} {c:Code} (hx:ext1 f=none) (hf:PP.funcs[f]? =some fn) (hb:fn.body=some c) (hd:qck c=true) {a:List AVal} {h:qaa} {m:Nat} (hm:fn.ntmps-a.length=m):
 D f a h=fin PP h.length fn.results.toList (qaz PP cmp0 D lpC c ⟨a++List.replicate m .undef,h,[]⟩):=by
 rw[←hm]
 exact evC_fn hx hf hb hd a h
theorem D_big {n:Nat} {f:FuncId} (hf:bigF.contains f=true) (h1:f≠21) {a:List AVal} {h:qaa} {r:CR} (e:evN PP cmp1 extM n f a h=some r):D f a h=some (frzR h r):=by
 unfold D
 rw[qjh (show ext1 f=some (MF f) by unfold ext1;rw[if_neg h1,if_pos hf])]
 unfold MF
 rw[show M f a h=some r from qgv e];rfl
theorem C_of {n:Nat} {f:FuncId} {a:List AVal} {h:qaa} {r:CR} (e:evN PP cmp0 ext0 n f a h=some r):C f a h=some r:=qgv e
end Go.Ab
namespace Go.Ab
open Go Go.Proofs Go.RowKit
theorem rng_ok (S:Sh) (h:qaa) (w:World) (k:WR PP S h w):∃tp p,w.var? PP "strconv.ErrRange" =some #[.iface tp p]:=by
 obtain⟨_,g,tp,p,T,fl,hg,hF⟩:=k.laid
 have:=(k.frz g _ hF).1
 refine⟨tp,p,?_⟩
 unfold World.var?
 rw[hg,Option.bind_some,this]
theorem prog_ok:qel PP cmp0 where
 mix:=by kernel_rfl
 cmp:=by
  intro t ht
  simp only[wc,wb,or_false]at ht
  subst ht
  kernel_rfl
 name:=by
  have h:(PP.funcs.all fun fn=> !(fn.name== "runtime.NumGoroutine"))=true:=by kernel_rfl
  intro f fn hf
  obtain⟨hlt,e⟩:=Array.getElem?_eq_some_iff.1 hf
  have:=(Array.all_eq_true.1 h) f hlt
  rw[e]at this
  simpa using this
theorem qkl:qel PP cmp1 where
 mix:=prog_ok.mix
 cmp:=fun t ht=>prog_ok.cmp t (by
  simp only[wc,wb,or_false,or_self]at ht ⊢
  exact ht)
 name:=prog_ok.name
theorem extM_ok:qjf PP extM where
 call:=by
  intro f g hg args h r e
  unfold extM at hg
  split at hg
  ·rename_i hf
   subst hf
   cases hg
   exact⟨⟨_,Tryz.func129,by kernel_rfl⟩,fun S w vs k ha=>qno rng_ok
    (fun s hs v hv w=>qa0 (Tryz.strconv_ParseInt_10_at64_ok s hs v hv w) (fun e w' hp=>by
     obtain⟨rfl,hp⟩:=hp
     rcases hp with rfl|⟨t,rfl⟩
     ·exact⟨rfl,Below.refl _ _⟩
     ·exact⟨rfl,Lib.bytesWorld_below _ _ _⟩))
    (fun s hs hv tp p w hvar=>qa0 (Tryz.strconv_ParseInt_10_at64_range_var s hs hv tp p w hvar) (fun e w' hp=>by
     obtain⟨N,rfl,_,_,hb⟩:=hp
     exact⟨N,rfl,hb⟩)) args h r e S w vs k ha⟩
  ·skip
   split at hg
   ·rename_i hf
    subst hf
    cases hg
    exact⟨⟨_,Tryz.func77,by kernel_rfl⟩,fun S w vs k ha=>cl_ok qkl Tryz.slices_Clone_string_nil args h r e S w vs k ha⟩
   ·skip
    split at hg
    ·cases hg;cases e
    ·skip
     cases hg
 keep:=by
  intro f g hg args h r e
  unfold extM at hg
  split at hg
  ·cases hg;exact qgw errT args h r e
  ·skip
   split at hg
   ·cases hg;exact qon args h r e
   ·skip
    split at hg
    ·cases hg;cases e
    ·skip
     cases hg
theorem extL_ok:qjf PP extL where
 call:=by
  intro f g hg args h r e
  unfold extL at hg
  split at hg
  ·rename_i hf
   subst hf
   cases hg
   exact⟨⟨_,Tryz.func129,by kernel_rfl⟩,fun S w vs k ha=>qno rng_ok
    (fun s hs v hv w=>qa0 (Tryz.strconv_ParseInt_10_at64_ok s hs v hv w) (fun e w' hp=>by
     obtain⟨rfl,hp⟩:=hp
     rcases hp with rfl|⟨t,rfl⟩
     ·exact⟨rfl,Below.refl _ _⟩
     ·exact⟨rfl,Lib.bytesWorld_below _ _ _⟩))
    (fun s hs hv tp p w hvar=>qa0 (Tryz.strconv_ParseInt_10_at64_range_var s hs hv tp p w hvar) (fun e w' hp=>by
     obtain⟨N,rfl,_,_,hb⟩:=hp
     exact⟨N,rfl,hb⟩)) args h r e S w vs k ha⟩
  ·skip
   split at hg
   ·rename_i hf
    subst hf
    cases hg
    exact⟨⟨_,Tryz.func77,by kernel_rfl⟩,fun S w vs k ha=>clone_ok Tryz.slices_Clone_string Tryz.slices_Clone_string_nil Tryz.slices_Clone_string_zero args h r e S w vs k ha⟩
   ·skip
    split at hg
    ·cases hg;cases e
    ·skip
     cases hg
 keep:=by
  intro f g hg args h r e
  unfold extL at hg
  split at hg
  ·cases hg;exact qgw errT args h r e
  ·skip
   split at hg
   ·cases hg;exact qlt args h r e
   ·skip
    split at hg
    ·cases hg;cases e
    ·skip
     cases hg
theorem ext_ok:qjf PP ext0 where
 call:=by
  intro f g hg args h r e
  unfold ext0 at hg
  split at hg
  ·cases hg;cases e
  ·exact extL_ok.call f g hg args h r e
 keep:=by
  intro f g hg args h r e
  unfold ext0 at hg
  split at hg
  ·cases hg;cases e
  ·exact extL_ok.keep f g hg args h r e
theorem M_ok:qay PP M:=evC_ok qkl extM_ok
theorem M_keep:qaj M:=fun f a h r e=>by
 obtain⟨n,hn⟩:=qem e
 exact(qli qkl extM_ok n).2 f a h r hn
theorem MF_keep:qaj MF:=fun f a h r e=>by
 unfold MF at e
 rw[wa]at e
 obtain⟨r0,hr,rfl⟩:=e
 have hk:=M_keep f a h r0 hr
 cases r0 with
 |ret v e=>exact qif hk.1
 |pan v e=>exact hk
theorem MF_ok:qay PP MF:=fun f a h r e=>by
 unfold MF at e
 rw[wa]at e
 obtain⟨r0,hr,rfl⟩:=e
 obtain⟨h1,h2⟩:=M_ok f a h r0 hr
 refine⟨h1,fun S w vs k ha=>qa0 (h2 S w vs k ha) (fun e' w' hp=> ?_)⟩
 have hk:=(M_keep f a h r0 hr).1
 cases r0 with
 |ret v e0=>
  obtain⟨u,S',rfl,st,hv⟩:=hp
  obtain⟨S2,g1,g2⟩:=qek k st hk hv
  exact⟨u,S2,rfl,g1,g2⟩
 |pan v e0=>exact hp
theorem call_ok:qay PP C:=evC_ok prog_ok ext_ok
theorem qmh:qaj C:=fun f a h r e=>by
 obtain⟨n,hn⟩:=qem e
 exact(qli prog_ok ext_ok n).2 f a h r hn
theorem ext1_ok:qjf PP ext1 where
 call:=by
  intro f g hg args h r e
  unfold ext1 at hg
  split at hg
  ·rename_i hf
   subst hf
   cases hg
   obtain⟨⟨fn,h1,h2,_⟩,h3⟩:=fnF_sound prog_ok call_ok qmh lpC_ok _ args h r e
   exact⟨⟨fn,h1,h2⟩,h3⟩
  ·skip
   split at hg
   ·cases hg
    obtain⟨⟨fn,h1,h2,_⟩,h3⟩:=MF_ok _ args h r e
    exact⟨⟨fn,h1,h2⟩,h3⟩
   ·exact ext_ok.call f g hg args h r e
 keep:=by
  intro f g hg args h r e
  unfold ext1 at hg
  split at hg
  ·cases hg;exact fnF_keep qmh lpC_ok _ args h r e
  ·skip
   split at hg
   ·cases hg;exact MF_keep _ args h r e
   ·exact ext_ok.keep f g hg args h r e
theorem callD_ok:qay PP D:=evC_ok prog_ok ext1_ok
end Go.Ab
