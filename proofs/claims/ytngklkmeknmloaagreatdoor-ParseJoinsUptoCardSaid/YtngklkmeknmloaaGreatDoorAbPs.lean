/- The parser's small methods: what stands next, a step, a word that is taken. -/
import Derived.Test.YtngklkmeknmloaaGreatDoorAbBox
import Derived.Test.YtngklkmeknmloaaGreatDoorAbObj
import Derived.Test.YtngklkmeknmloaaGreatDoorAbPSpec
import Derived.Test.YtngklkmeknmloaaGreatDoorAbSameD
set_option linter.unusedSimpArgs false
set_option linter.unusedVariables false
set_option maxRecDepth 100000
set_option maxHeartbeats 4000000
open Go.Proofs
open Nat renaming lt_one_iff→wa
open List renaming length_cons→wb,map_cons→wd
open Bool renaming and_eq_true→wc
namespace Go.Ab
open Go Go.Ab.Tab
def pbox (ts:List PTok) (d:Nat):List AVal:=[.slice (ts.map PTok.cells) .free,.int .i64 d]
theorem qaa (ts:List PTok) (d:Nat):qad (pbox ts d)=[]:=by simp[pbox,qad,refs]
structure TsOk (ts:List PTok):Prop where
 fin:∃l e,ts=l++[e]∧e.sort=6
 le:ts.length≤65537
theorem TsOk.ne {ts:List PTok} (h:TsOk ts):∃t r,ts=t::r:=by
 obtain⟨l,e,h,_⟩:=h.fin
 cases ts with
 |nil=>simp at h
 |cons t r=>exact⟨t,r,rfl⟩
theorem TsOk.tail {t:PTok} {r:List PTok} (h:TsOk (t::r)) (hs:t.sort≠6):TsOk r:=by
 obtain⟨l,e,h1,h2⟩:=h.fin
 cases l with
 |nil=>simp at h1;obtain⟨rfl,rfl⟩:=h1;exact(hs h2).elim
 |cons x l=>simp at h1;obtain⟨rfl,rfl⟩:=h1;exact⟨⟨l,e,rfl,h2⟩,by have:=h.le;simp only[wb]at this;omega⟩
theorem TsOk.hasS {s:Str} {ts:List PTok} (h:TsOk ts) (hs:hasS s ts=true):∃t r,ts=t::r∧TsOk r∧t.text=s∧(t.sort=4∨t.sort=5):=by
 obtain⟨t,r,rfl⟩:=h.ne
 simp only[Go.Ab.hasS,qg1,wc,Bool.or_eq_true,beq_iff_eq]at hs
 exact⟨t,r,rfl,h.tail (by rcases hs.1 with h|h<;>omega),hs.2,hs.1⟩
theorem qeu (n:Nat) (H:qab) (ts:List PTok) (d:Nat) (b:Nat) (hb:H[b]? =some (.box (pbox ts d))):qih n H b:=
 qzi n H b _ hb (by intro v hv;simp[pbox]at hv;rcases hv with rfl|rfl<;>simp)
theorem qfi {n:Nat} {v v':AVal} {h:qab} {d:List Nat} (hd:∀x∈d,n≤x) (hr:refs (strip3 v)=[]) (hv:strip3 v=v'):some (CR.ret (qbg n v h d).1 (qbg n v h d).2)=some (CR.ret v' .same):=by
 rw[qa0 n v h d hd hr,hv]
theorem next_c (t:PTok) (r:List PTok) (d:Nat):C 51 [.ptr 0 0] [.box (pbox (t::r) d)]=some (.ret (.agg t.cells) .same):=by
 have hc:t.cells=[.int .i64 t.sort,.str t.text,.int .i64 t.n,.int .i64 t.line,.int .i64 t.col]:=rfl
 rw[hc]
 rw[C_fn rfl Tryz.func51 rfl (by kernel_rfl) (m:=8) rfl];simp only[Z3,simprocAttr,Tryz.f51,fx_51,pbox,hc,wd]
 rw[qa0 1 _ _ _ (by simp) rfl];rfl
theorem qe0 (t:PTok) (r:List PTok) (d:Nat) (H:qab):qai C (.box (pbox (t::r) d)::H) 51 [.ptr 0 0]=some (.ret (.agg [.int .i64 t.sort,.str t.text,.int .i64 t.n,.int .i64 t.line,.int .i64 t.col]) .same):=
 qcf (rest:=[]) rfl rfl (qaa _ _) (next_c t r d) rfl
theorem psign_c (t:PTok) (r:List PTok) (d:Nat):C 130 [.ptr 0 0] [.box (pbox (t::r) d)]=some (.ret (.str (qau (t::r))) .same):=by
 cases h4:(t.sort==4)
 ·cases h5:(t.sort==5)
  ·have e:qau (t::r)=[]:=by simp[qau,h4,h5]
   rw[e]
   rw[C_fn rfl Tryz.func130 rfl (by kernel_rfl) (m:=15) rfl];simp only[Z3,simprocAttr,Tryz.f130,fx_130,qe0,h4,h5]
   exact qfi (by simp[Eff.dirt]) rfl rfl
  ·have e:qau (t::r)=t.text:=by simp[qau,h4,h5]
   rw[e]
   rw[C_fn rfl Tryz.func130 rfl (by kernel_rfl) (m:=15) rfl];simp only[Z3,simprocAttr,Tryz.f130,fx_130,qe0,h4,h5]
   exact qfi (by simp[Eff.dirt]) rfl rfl
 ·have e:qau (t::r)=t.text:=by simp[qau,h4]
  rw[e]
  rw[C_fn rfl Tryz.func130 rfl (by kernel_rfl) (m:=15) rfl];simp only[Z3,simprocAttr,Tryz.f130,fx_130,qe0,h4]
  exact qfi (by simp[Eff.dirt]) rfl rfl
theorem qbb (t:PTok) (r:List PTok) (d:Nat) (H:qab):qai C (.box (pbox (t::r) d)::H) 130 [.ptr 0 0]=some (.ret (.str (qau (t::r))) .same):=
 qcf (rest:=[]) rfl rfl (qaa _ _) (psign_c t r d) rfl
theorem slice_one (t:PTok) (r:List PTok):qil PP 77 (.slice (t.cells::r.map PTok.cells) .free) (some (.int .i64 1)) none none=some (.slice (r.map PTok.cells) .free):=by
 have h1:PP.underlying 77=some (.slice 84):=by kernel_rfl
 have h2:qaq PP 84=some 5:=by kernel_rfl
 unfold qil
 simp only[h1,h2]
 have hb:qhj (.int .i64 1) (t.cells::r.map PTok.cells).length=some 1:=by
  simp[qhj];omega
 rw[hb]
 have h3:qfa 5 (t.cells::r.map PTok.cells)=true:=rfl
 simp only[h3,if_true,List.drop_succ_cons,List.drop_zero,wb,Nat.add_sub_cancel]
 congr 1
 have:(r.map PTok.cells).take (r.map PTok.cells).length=r.map PTok.cells:=List.take_length
 rw[this]
 congr 1
 simp[qpc]
theorem step_c (t:PTok) (r:List PTok) (d:Nat):qbi C 131 [.ptr 0 0] [.box (pbox (t::r) d)] (.tuple []) [.box (pbox r d)]:=by
 refine qa6 rfl Tryz.func131 rfl (by kernel_rfl) (m:=9) rfl ?_;simp only[Z3,simprocAttr,Tryz.f131,fx_131,pbox,wd,slice_one]
 exact qcy (.inr rfl) rfl rfl rfl (fun b hb=>by
  obtain rfl:b=0:=wa.1 hb
  exact qeu _ _ r d _ rfl) rfl
theorem met {f:FuncId} {rest:List AVal} {x y:List AVal} {v:AVal} (g:qbi C f (.ptr 0 0::rest) [.box x] v [.box y]) (hr:qad rest=[]) (px:qad x=[]) (py:qad y=[]) (hv:refs v=[]):
 ∃E:qab→Eff,(∀H,qai C (.box x::H) f (.ptr 0 0::rest)=some (.ret v (E H)))∧∀H,(E H).of (.box x::H)= .box y::H:=by
 have h:∀H,∃E:Eff,qai C (.box x::H) f (.ptr 0 0::rest)=some (.ret v E)∧E.of (.box x::H)= .box y::H:=fun H=>qed qaw (b:=0) (H:= .box x::H) hr rfl px py g hv
 exact⟨fun H=>(h H).choose,fun H=>(h H).choose_spec.1,fun H=>(h H).choose_spec.2⟩
theorem qk4 (t:PTok) (r:List PTok) (d:Nat):∃E:qab→Eff,(∀H,qai C (.box (pbox (t::r) d)::H) 131 [.ptr 0 0]=some (.ret (.tuple []) (E H)))∧∀H,(E H).of (.box (pbox (t::r) d)::H)= .box (pbox r d)::H:=
 met (step_c t r d) rfl (qaa _ _) (qaa _ _) rfl
theorem sign_ne {s:Str} {t:PTok} {r:List PTok} (hs:s≠[]) (h:hasS s (t::r)=false):(qau (t::r) !=s)=true:=by
 simp only[hasS,qg1,qau]at h ⊢
 cases h4:(t.sort==4||t.sort==5)
 ·simp[Ne.symm hs]
 ·simp[h4]at h ⊢;exact h
theorem qur {s:Str} {t:PTok} {r:List PTok} (h:hasS s (t::r)=true):qau (t::r)=s:=by
 simp only[hasS,qg1,qau,wc,beq_iff_eq]at h ⊢
 rw[if_pos h.1];exact h.2
theorem qhx (s:Str) (hs:s≠[]) (t:PTok) (r:List PTok) (d:Nat) (h:hasS s (t::r)=false):C 76 [.ptr 0 0,.str s] [.box (pbox (t::r) d)]=some (.ret (.bool false) .same):=by
 have hn:=sign_ne hs h
 have hn':(!(qau (t::r)==s))=true:=hn
 rw[C_fn rfl Tryz.func76 rfl (by kernel_rfl) (m:=9) rfl];simp only[Z3,simprocAttr,Tryz.f76,fx_76,qbb,hn']
 exact qfi (by simp[Eff.dirt]) rfl rfl
theorem qem (s:Str) (t:PTok) (r:List PTok) (d:Nat) (h:hasS s (t::r)=true):qbi C 76 [.ptr 0 0,.str s] [.box (pbox (t::r) d)] (.bool true) [.box (pbox r d)]:=by
 have hn:=qur h
 have hn':(!(qau (t::r)==s))=false:=by rw[hn];simp
 obtain⟨E,e1,e2⟩:=qk4 t r d
 refine qa6 rfl Tryz.func76 rfl (by kernel_rfl) (m:=9) rfl ?_;simp only[Z3,simprocAttr,Tryz.f76,fx_76,effs,qbb,hn',e1,e2]
 exact qcy (.inl rfl) rfl rfl rfl (fun b hb=>by
  obtain rfl:b=0:=wa.1 hb
  exact qeu _ _ r d _ rfl) rfl
theorem qev (s:Str) (hs:s≠[]) (t:PTok) (r:List PTok) (d:Nat) (h:hasS s (t::r)=false) (H:qab):qai C (.box (pbox (t::r) d)::H) 76 [.ptr 0 0,.str s]=some (.ret (.bool false) .same):=
 qcf (rest:=[.str s]) rfl rfl (qaa _ _) (qhx s hs t r d h) rfl
theorem qda (s:Str) (t:PTok) (r:List PTok) (d:Nat) (h:hasS s (t::r)=true):∃E:qab→Eff,(∀H,qai C (.box (pbox (t::r) d)::H) 76 [.ptr 0 0,.str s]=some (.ret (.bool true) (E H)))∧∀H,(E H).of (.box (pbox (t::r) d)::H)= .box (pbox r d)::H:=
 met (qem s t r d h) rfl (qaa _ _) (qaa _ _) rfl
theorem qhg (s:Str) (t:PTok) (r:List PTok) (d:Nat) (h:hasS s (t::r)=true):qbi C 78 [.ptr 0 0,.slice [[.str s]] .full] [.box (pbox (t::r) d)] (.tuple []) [.box (pbox r d)]:=by
 obtain⟨E,e1,e2⟩:=qda s t r d h
 refine qa6 rfl Tryz.func78 rfl (by kernel_rfl) (m:=17) rfl ?_;simp only[Z3,simprocAttr,Tryz.f78,qig,effs,e1,e2]
 have d1:decide ((0:Int)<((1:Nat):Int))=true:=rfl
 have d0:decide ((1:Int)<((1:Nat):Int))=false:=rfl
 have g0:([[AVal.str s]]:List (List AVal))[0]? =some [.str s]:=rfl
 rw[qh1]
 simp only[Z3,simprocAttr,effs,qig,e1,e2,d1,g0]
 rw[qh1]
 simp only[Z3,simprocAttr,effs,qig,e1,e2,d0]
 exact qcy (.inr rfl) rfl rfl rfl (fun b hb=>by
  obtain rfl:b=0:=wa.1 hb
  exact qeu _ _ r d _ rfl) rfl
theorem word_c (k:Int) (t:PTok) (r:List PTok) (d:Nat) (h:t.sort=k):qbi C 197 [.ptr 0 0,.int .i64 k] [.box (pbox (t::r) d)] (.str t.text) [.box (pbox r d)]:=by
 subst h
 obtain⟨E,e1,e2⟩:=qk4 t r d
 refine qa6 rfl Tryz.func197 rfl (by kernel_rfl) (m:=16) rfl ?_;simp only[Z3,simprocAttr,Tryz.f197,fx_197,effs,qe0,bne_self_eq_false,e1,e2]
 exact qcy (.inl rfl) rfl rfl rfl (fun b hb=>by
  obtain rfl:b=0:=wa.1 hb
  exact qeu _ _ r d _ rfl) rfl
end Go.Ab
