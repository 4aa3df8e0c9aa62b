/- The seat's calls: which heap is left. -/
import Derived.Test.YtngklkmeknmloaaGreatDoorAbBase
import Derived.Test.YtngklkmeknmloaaGreatDoorAbBox
set_option linter.unusedSimpArgs false
set_option linter.unusedVariables false
set_option maxRecDepth 100000
set_option maxHeartbeats 4000000
namespace Go.Ab
open Go Go.Ab.Tab
theorem keepX {f:FuncId} {g:List AVal→qaa→Option CR} (hg:extM f=some g) (args:List AVal) (h:qaa) (r:CR) (e:g args h=some r):qce h r.eff∧LowC h r:=by
 unfold extM at hg
 split at hg
 ·cases hg;exact qjh args h r e
 ·split at hg
  ·cases hg;exact qj7 args h r e
  ·split at hg
   ·cases hg;exact qh1 errT args h r e
   ·split at hg
    ·cases hg;cases e
    ·split at hg
     ·cases hg;cases e
     ·split at hg
      ·cases hg;exact qh2 args h r e
      ·cases hg
theorem keepN:∀n,qan (evN PP cmp0 ext0 n)
 |0=>fun f args h r e=>by cases e
 |n+1=>fun f args h r e=>by
  unfold evN at e
  split at e
  ·rename_i g hg
   unfold ext0 at hg
   split at hg
   ·cases hg;cases e
   ·exact keepX hg args h r e
  ·exact qp1 (keepN n) (qiq n) f args h r e
theorem keepC:qan C:=fun f args h r e=>by
 obtain⟨n,hn⟩:=qdl e
 exact keepN n f args h r hn
theorem C_gives {f:FuncId} {fn:Func} {c:Code} (hx:ext0 f=none) (hf:PP.funcs[f]? =some fn) (hb:fn.body=some c) (hd:qb9 c=true) {a:List AVal} {h:qaa} {m:Nat} (hm:fn.ntmps-a.length=m) {v:AVal} {h1:qaa}
 (e:finE PP h.length fn.results.toList v h1 (qar PP cmp0 C lpC c ⟨a++List.replicate m .undef,h,[]⟩)):qgd C f a h v h1:=qqw keepC hx hf hb hd hm e
end Go.Ab
