/- A variable's type put in: the layer's way and the document's. -/
import Derived.Test.YtlfollkhlephmaaGreatDoorAbSim
import Derived.Test.YtlfollkhlephmaaGreatDoorAbEqs
import Derived.Test.YtlfollkhlephmaaGreatDoorAbTypes
set_option linter.unusedSimpArgs false
set_option linter.unusedVariables false
set_option maxRecDepth 100000
set_option maxHeartbeats 4000000
open Go.Proofs
open List renaming getElem?_eq_none→wa,getElem?_eq_getElem→wb,getElem?_map→wc
namespace Go.Ab
def AtD (n:Nat) (junk:List Nat) (ts0:List AVal) (H0:qaa) (w:List (Nat×AVal)) (s:St):Prop:=At junk ts0 H0 w s∧∀x∈s.dirty,n≤x
theorem AtD.elim {n:Nat} {junk:List Nat} {ts0:List AVal} {H0:qaa} {w:List (Nat×AVal)} {s:St} (h:AtD n junk ts0 H0 w s):
 ∃(j:Nat→AVal) (H:qaa) (d:List Nat),(∀x∈d,n≤x)∧s=⟨upd (w++junk.map fun k=>(k,j k)) ts0,H0++H,d⟩:=⟨_,_,s.dirty,h.2,h.1⟩
end Go.Ab
namespace Go.Ab
theorem At.of {junk:List Nat} {ts0:List AVal} {H0:qaa} {w:List (Nat×AVal)} {s:St} (T:qaa) (h1:s.tmps=upd (w++junk.map fun k=>(k,s.tmps.getD k .undef)) ts0) (h2:s.heap=H0++T):At junk ts0 H0 w s:=by
 obtain⟨a,b,c⟩:=s
 simp only at h1 h2
 subst h2
 unfold At
 simp only[List.drop_left]
 rw[←h1]
theorem stepB_eff (pk:Bool) (ask:Eff→Bool) (v:AVal) (f:Eff) (d:Tmp) (ts:List AVal) (h:qaa) (dd:List Nat) (k:St→Option (AEx×St)):qcb false pk ask (some (.val v f)) (some d) ⟨ts,h,dd⟩ k=k ⟨ts.set d v,f.of h,f.dirt++dd⟩:=rfl
theorem qq4 (pk:Bool) (ask:Eff→Bool) (v:AVal) (f:Eff) (ts:List AVal) (h:qaa) (dd:List Nat) (k:St→Option (AEx×St)):qcb false pk ask (some (.val v f)) none ⟨ts,h,dd⟩ k=k ⟨ts,f.of h,f.dirt++dd⟩:=rfl
theorem dirt_same:Eff.dirt .same=[]:=rfl
theorem dirt_heap (h:qaa) (d:List Nat):Eff.dirt (.heap h d)=d:=rfl
theorem stepD_eff (pk:Bool) (ask:Eff→Bool) (v:AVal) (f:Eff) (d:Tmp) (ts:List AVal) (h:qaa) (dd:List Nat) (k:St→Option (AEx×St)):qcb true pk ask (some (.val v f)) (some d) ⟨ts,h,dd⟩ k=ifB (ask f) (k ⟨ts.set d v,f.of h,f.dirt++dd⟩):=rfl
theorem qq5 (pk:Bool) (ask:Eff→Bool) (v:AVal) (f:Eff) (ts:List AVal) (h:qaa) (dd:List Nat) (k:St→Option (AEx×St)):qcb true pk ask (some (.val v f)) none ⟨ts,h,dd⟩ k=ifB (ask f) (k ⟨ts,f.of h,f.dirt++dd⟩):=rfl
abbrev effs:=Ji @stepB_eff (Ji @qq4 (Ji @stepD_eff (Ji @qq5 (Ji @dirt_same @dirt_heap))))
end Go.Ab
namespace Go.Ab
open Go Go.Ab.Tab
theorem fault_eq (n:Bool):binA PP cmp0 .eql 42 n (.agg [.int .i64 0,.int .i64 0,.int .i64 0]) (.agg [.int .i64 0,.int .i64 0,.int .i64 0])=some (.bool true):=by
 cases n<;>kernel_rfl
theorem only_1:Ret D 16 [.agg [l8s [],l8s [[l8i (-1)]],l8s [[l8i (-1)]]],l8i (-1),l8i (-1)] (.bool true):=Ret.mk (by rfl) (by rfl) (up (runC (n:=10) (by kernel_rfl)))
theorem only_2:Ret D 16 [.agg [l8s [],l8s [[l8i 1]],l8s [[l8i 2]]],l8i 1,l8i 2] (.bool true):=Ret.mk (by rfl) (by rfl) (up (runC (n:=10) (by kernel_rfl)))
theorem lives_ret:Ret D 6 [] (.bool true):=by
 have c1:=l8_parse
 have c2:=l8_infer
 have c3:=only_1
 have c4:=only_2
 have hp:l8P.cells=[.slice [] .free,.slice [PNode.cells ⟨[102],[],[[120]],[[121]],[l8q [121] (.mk 8 [] 0 [] [l8v [120],l8v [120]])]⟩,PNode.cells ⟨[103],[],[[120]],[[121]],[l8q [121] (.mk 6 [61] 0 [] [.mk 6 [43] 0 [] [l8v [120],l8n 1],.mk 14 [102] 0 [] [l8n 2]])]⟩] .free]:=rfl
 rw[hp]at c1 c2
 unfold l8T0 l8Z at c1
 unfold l8Z l8L l8s l8nm l8i l8s at c2
 unfold l8s l8i at c3 c4
 have o1:(((2:Nat):Int)==2)=true:=rfl
 refine Ret.mk rfl rfl ?_
 rw[D_fn rfl Tryz.func6 rfl (by kernel_rfl) (m:=41) rfl];simp only[Z3,simprocAttr,Tryz.f6,fx_6,effs,c1 _,c2 _,c3 _,c4 _,fault_eq,o1,List.append_eq,List.cons_append,List.nil_append]
end Go.Ab
namespace Go.Ab
open Go Go.Ab.Tab
def qcv (t:Int) (l:List Int):Int:=if t<0 then(match l[(-1-t).toNat]? with|some x=>x|none=>t)else t
def qjq (l:List Int):AVal:= .slice (l.map fun n=>[.int .i64 n]) .free
theorem set_c (t:Int) (l:List Int) (h1: -9223372036854775808≤t) (h2:t≤9223372036854775807) (hl:l.length≤qa9):Ret D 7 [.int .i64 t,qjq l] (.int .i64 (qcv t l)):=by
 refine Ret.mk rfl rfl ?_
 have w1:t<0→qb4 .i64 (-1-t)= -1-t:=fun _=>by unfold qb4;simp only;rw[if_pos (by simp;omega)]
 unfold qjq
 by_cases hc1:t<0
 ·have w1:=w1 hc1
  have o1:decide (t<0)=true:=by simpa using hc1
  by_cases hc2: -1-t<l.length
  ·have o2:decide (-1-t<(l.length:Int))=true:=by simpa using hc2
   have hlt:(-1-t).toNat<l.length:=by omega
   have hg:l[(-1-t).toNat]? =some (l[(-1-t).toNat]'hlt):=wb hlt
   have hv:qcv t l=l[(-1-t).toNat]'hlt:=by unfold qcv;rw[if_pos hc1,hg]
   have h0:(0:Int)≤ -1-t:=by omega
   have o3:decide ((0:Int)≤ -1-t)=true:=by simpa using h0
   rw[hv]
   rw[D_fn rfl Tryz.func7 rfl (by kernel_rfl) (m:=19) rfl];simp only[Z3,simprocAttr,Tryz.f7,fx_7,w1,o1,o2,o3,hg,wc]
  ·have o2:decide (-1-t<(l.length:Int))=false:=by simpa using hc2
   have hv:qcv t l=t:=by unfold qcv;rw[if_pos hc1,wa (by omega)]
   rw[hv]
   rw[D_fn rfl Tryz.func7 rfl (by kernel_rfl) (m:=19) rfl];simp only[Z3,simprocAttr,Tryz.f7,fx_7,w1,o1,o2]
 ·have o1:decide (t<0)=false:=by simpa using hc1
  have hv:qcv t l=t:=by unfold qcv;rw[if_neg hc1]
  rw[hv]
  rw[D_fn rfl Tryz.func7 rfl (by kernel_rfl) (m:=19) rfl];simp only[Z3,simprocAttr,Tryz.f7,fx_7,o1]
theorem rset_c (t:Int) (l:List Int) (h1: -9223372036854775808≤t) (h2:t≤9223372036854775807) (hl:l.length≤qa9):Ret D 8 [.int .i64 t,qjq l] (.int .i64 (qcv t l)):=by
 refine Ret.mk rfl rfl ?_
 unfold qa9 at hl
 unfold qjq
 by_cases hc1:t<0
 ·have o1:decide (t<0)=true:=by simpa using hc1
  by_cases hmin:t= -9223372036854775808
  ·have w1:qb4 .i64 (0-t)=t:=by subst hmin;rfl
   have o2:decide (t≤(l.length:Int))=true:=by simp;omega
   have o3:decide ((0:Int)<t)=false:=by simp;omega
   have hv:qcv t l=t:=by unfold qcv;rw[if_pos hc1,wa (by omega)]
   rw[hv]
   rw[D_fn rfl Tryz.func8 rfl (by kernel_rfl) (m:=24) rfl];simp only[Z3,simprocAttr,Tryz.f8,fx_8,w1,o1,o2,o3]
  ·have w1:qb4 .i64 (0-t)=0-t:=by unfold qb4;simp only;rw[if_pos (by simp;omega)]
   have o3:decide ((0:Int)<0-t)=true:=by simp;omega
   by_cases hc2:0-t≤l.length
   ·have o2:decide (0-t≤(l.length:Int))=true:=by simpa using hc2
    have w2:qb4 .i64 (0-t-1)= -1-t:=by unfold qb4;simp only;rw[if_pos (by simp;omega)];omega
    have hlt:(-1-t).toNat<l.length:=by omega
    have hg:l[(-1-t).toNat]? =some (l[(-1-t).toNat]'hlt):=wb hlt
    have hv:qcv t l=l[(-1-t).toNat]'hlt:=by unfold qcv;rw[if_pos hc1,hg]
    have h0:(0:Int)≤ -1-t:=by omega
    have o4:decide ((0:Int)≤ -1-t)=true:=by simpa using h0
    rw[hv]
    rw[D_fn rfl Tryz.func8 rfl (by kernel_rfl) (m:=24) rfl];simp only[Z3,simprocAttr,Tryz.f8,fx_8,w1,w2,o1,o2,o3,o4,hg,wc]
   ·have o2:decide (0-t≤(l.length:Int))=false:=by simpa using hc2
    have hv:qcv t l=t:=by unfold qcv;rw[if_pos hc1,wa (by omega)]
    rw[hv]
    rw[D_fn rfl Tryz.func8 rfl (by kernel_rfl) (m:=24) rfl];simp only[Z3,simprocAttr,Tryz.f8,fx_8,w1,o1,o2]
 ·have o1:decide (t<0)=false:=by simpa using hc1
  have hv:qcv t l=t:=by unfold qcv;rw[if_neg hc1]
  rw[hv]
  rw[D_fn rfl Tryz.func8 rfl (by kernel_rfl) (m:=24) rfl];simp only[Z3,simprocAttr,Tryz.f8,fx_8,o1]
theorem sum1:∀l:List Int,qb6 (fun _=>1) l=l.length
 |[]=>rfl
 |_::r=>by simp only[qb6,sum1 r,List.length_cons];omega
theorem tset_c (t:Int) (l:List Int) (h1: -9223372036854775808≤t) (h2:t≤9223372036854775807) (hl:l.length≤qa9):D 3 [.int .i64 t,qjq l] []=some (.ret (.bool true) .same):=by
 have c0:=lives_ret
 have c1:=set_c t l h1 h2 hl
 have c2:=rset_c t l h1 h2 hl
 unfold qjq at c1 c2 ⊢
 have o1:∀z:Int,(z==z)=true:=fun z=>by simp
 rw[D_fn rfl Tryz.func3 rfl (by kernel_rfl) (m:=13) rfl];simp only[Z3,simprocAttr,Tryz.f3,fx_3,effs,c0 _,c1 _,c2 _,o1]
end Go.Ab
