/- Soundness of the single operations: fields, elements, interfaces, building. -/
import Derived.Test.YtlfollkhlephmaaGreatDoorAbOp1
import Derived.Laws.Strings
import Derived.Laws.Concat
set_option linter.unusedSimpArgs false
set_option linter.unusedVariables false
set_option maxRecDepth 100000
set_option maxHeartbeats 4000000
open Nat renaming le_refl→wa,add_mul→wo,add_assoc→wu,zero_le→w3
open Array renaming length_toList→wb,all_eq_true_iff_forall_mem→wd,getElem?_toList→wh,toList_map→wt
open List renaming getElem?_take_of_lt→wc,getElem?_drop→we,getElem?_eq_none→wi,mem_of_getElem?→wj,getElem?_set_ne→wk,ext_getElem?→wm,length_cons→wq,length_take→ws,map_cons→ww,map_map→wz
open Bool renaming and_eq_true→wg,not_eq_true'→wl
open Prod renaming fst→w4,snd→w5
namespace Go.Ab
variable {P:Program} {S:Sh} {h:qaa} {w:World}
theorem qg4 (k:IntKind) (n:Int):qb4 k n=k.wrap n:=by
 unfold qb4
 split
 ·split
  ·rename_i hc
   simp only[wg,decide_eq_true_eq]at hc
   unfold IntKind.wrap
   simp only[IntKind.bits,IntKind.signed,Bool.true_and,ge_iff_le,decide_eq_true_eq]
   split<;>rename_i h2<;>simp at h2<;>omega
  ·rfl
 ·rfl
theorem qm3 {op:BinOp} {k:IntKind} {a b:Int} {u:AVal} (e:qb7 op k a b=some u) (h1:op≠ .shl) (h2:op≠ .shr) (t:TypeId):
 ∃v,(binOp op t (.int k a) (.int k b)).run P w= .ok v w∧VR S u v:=by
 cases op<;>simp only[qb7]at e<;>first
  |(exact absurd rfl h1)
  |(exact absurd rfl h2)
  |(cases e;done)
  |(cases e;exact⟨_,by simp[binOp,Op.intArith,Op.intCmp,Op.intBits];rfl,by first|(rw[qg4];exact .int _ _)|exact .int _ _|exact .bool _⟩)
  |(
   split at e
   ·cases e
   ·rename_i hb;cases e;exact⟨_,by simp[binOp,Op.intDiv,hb];rfl,by first|(rw[qg4];exact .int _ _)|exact .int _ _⟩)
theorem qfj {s:ByteArray} {l:List UInt8} (e:s.data.toList=l):l.length=s.size:=by
 rw[←e,wb];rfl
theorem ql0 {t:TypeId} {x y:AVal} {vx vy:Value} {r:Bool} (hx:VR S x vx) (hy:VR S y vy) (e:eqS P t x y=some r) (d:Nat):
 (Op.equalIn (d+1) t vx vy).run P w= .ok r w:=by
 unfold eqS at e
 split at e
 ·rename_i hu;cases hx;cases hy;cases e;simp[Op.equalIn,run_underlying hu]
 ·rename_i k' k a k2 b hu
  split at e
  ·rename_i hk;subst hk;cases hx;cases hy;cases e;simp[Op.equalIn,run_underlying hu]
  ·cases e
 ·rename_i a b hu
  cases hx with
  |str s l e1=>cases hy with
   |str s' l' e2=>
    subst e1;subst e2
    cases e
    simp only[Op.equalIn,Sem.run_bind,run_underlying hu,Result.andThen_ok,Sem.run_pure]
    rw[beq_toListBytes,ByteArray.toList_eq,ByteArray.toList_eq]
 ·cases e
theorem eqS_agg {t:TypeId} {x y:AVal} {r:Bool} (e:eqS P t x y=some r):(isAgg t).run P w= .ok false w:=by
 unfold eqS at e
 split at e
 ·rename_i hu;simp[isAgg,run_underlying hu]
 ·rename_i hu;simp[isAgg,run_underlying hu]
 ·rename_i hu;simp[isAgg,run_underlying hu]
 ·cases e
theorem qgq {a b:List AVal} {x y:Array Value} (hx:VRl S a x.toList) (hy:VRl S b y.toList) (d:Nat):
 ∀{fs:List Field} {r:Bool},(∀f∈fs,f.name≠ "_")→eqFields P a b fs=some r→(Op.eqFields (d+1) x y fs).run P w= .ok r w
 |[],r,_,e=>by cases e;rfl
 |f::fs,r,hn,e=>by
  unfold eqFields at e
  split at e
  ·rename_i u v hu hv
   obtain⟨pu,hpu,hru⟩:=hx.get hu
   obtain⟨pv,hpv,hrv⟩:=hy.get hv
   rw[wh]at hpu hpv
   have hname:=hn f (by simp)
   have ih:=fun r=>qgq hx hy d (fs:=fs) (r:=r) (fun g hg=>hn g (by simp[hg]))
   split at e
   ·rename_i he
    simp[Op.eqFields,hname,part,eqS_agg he,hpu,hpv,ql0 hru hrv he,ih r e]
   ·rename_i he
    cases e
    simp[Op.eqFields,hname,part,eqS_agg he,hpu,hpv,ql0 hru hrv he]
   ·cases e
  ·cases e
def qca (P:Program) (t:TypeId):Bool:=
 !P.stoodInHeld t && !P.eqGuardType P.depth t && (P.fieldsOf t).all fun f=>f.name != "_"
theorem qpi {cmp:List TypeId} (hcmp:∀t∈cmp,qca P t=true) {t:TypeId} {n:Bool} {x y:AVal} {vx vy:Value} {r:Bool} (hx:VR S x vx) (hy:VR S y vy)
 (e:eqT P cmp t n x y=some r) (d:Nat):(Op.equalIn (d+1+1) t vx vy).run P w= .ok r w:=by
 unfold eqT at e
 split at e
 ·rename_i hu;cases hx;cases hy;cases e;(rw[Op.equalIn];simp only[Sem.run_bind,run_underlying hu,Result.andThen_ok];rfl)
 ·rename_i hu;cases hx;cases hy;cases e;(rw[Op.equalIn];simp only[Sem.run_bind,run_underlying hu,Result.andThen_ok];rfl)
 ·rename_i hu;cases hx;cases hy;cases e;(rw[Op.equalIn];simp only[Sem.run_bind,run_underlying hu,Result.andThen_ok];rfl)
 ·rename_i hu;cases hx;cases hy;cases e;(rw[Op.equalIn];simp only[Sem.run_bind,run_underlying hu,Result.andThen_ok];rfl)
 ·rename_i hu;cases hx;cases hy;cases e;(rw[Op.equalIn];simp only[Sem.run_bind,run_underlying hu,Result.andThen_ok];rfl)
 ·rename_i hu;cases hx;cases hy;cases e;(rw[Op.equalIn];simp only[Sem.run_bind,run_underlying hu,Result.andThen_ok];rfl)
 ·rename_i hu;cases hx;cases hy;cases e;(rw[Op.equalIn];simp only[Sem.run_bind,run_underlying hu,Result.andThen_ok];rfl)
 ·rename_i hu
  split at e
  ·cases hx;cases hy;cases e;(rw[Op.equalIn];simp only[Sem.run_bind,run_underlying hu,Result.andThen_ok];rfl)
  ·cases e
 ·rename_i hu;cases hx;cases hy;cases e;(rw[Op.equalIn];simp only[Sem.run_bind,run_underlying hu,Result.andThen_ok];rfl)
 ·rename_i hu;cases hx;cases hy;cases e;(rw[Op.equalIn];simp only[Sem.run_bind,run_underlying hu,Result.andThen_ok];rfl)
 ·rename_i fs a b hu
  split at e
  ·rename_i hc
   have hc:=hcmp t (by simpa using hc)
   obtain⟨p,rfl,hp⟩:=hx.inv_agg
   obtain⟨q,rfl,hq⟩:=hy.inv_agg
   have hf:P.fieldsOf t=fs:=by simp[Program.fieldsOf,hu]
   simp only[qca,wg,wl,hf]at hc
   rw[run_equalIn_struct w (d+1) t p q (by rw[hf];exact hu) hc.1.1,hf]
   exact qgq hp hq d (fun f hf'=>by
    have:=hc.2
    rw[wd]at this
    simpa using this f (by simpa using hf')) e
  ·cases e
 ·cases e
theorem ql1 {cmp:List TypeId} (hcmp:∀t∈cmp,qca P t=true) {t:TypeId} {n:Bool} {x y:AVal} {vx vy:Value} {r:Bool} (hx:VR S x vx) (hy:VR S y vy)
 (e:eqT P cmp t n x y=some r):(Op.equal t vx vy).run P w= .ok r w:=qpi hcmp hx hy e 9998
theorem eqT_nils {cmp:List TypeId} {t:TypeId} {n:Bool} {r:Bool} (e:eqT P cmp t n .nili .nili=some r):n=true:=by
 unfold eqT at e
 split at e<;>simp_all
theorem eqT_aggs {cmp:List TypeId} {t:TypeId} {n:Bool} {a b:List AVal} {r:Bool} (e:eqT P cmp t n (.agg a) (.agg b)=some r):t∈cmp:=by
 unfold eqT at e
 split at e<;>simp_all
theorem qju {cmp:List TypeId} (hcmp:∀t∈cmp,qca P t=true) {op:BinOp} {t:TypeId} {x y:Operand} {a b:AVal} {va vb:Value} {r:Bool}
 (hx:VR S a va) (hy:VR S b vb) (e:eqT P cmp t (qbl x||qbl y) a b=some r) (ho:op= .eql∨op= .neq):(eqGuard op t x y va vb).run P w= .ok () w:=by
 cases hx<;>cases hy<;>(try (rcases ho with rfl|rfl<;>rfl))
 ·have hn:=eqT_nils e
  cases x<;>cases y<;>simp[qbl]at hn<;>(rcases ho with rfl|rfl<;>rfl)
 ·have:=hcmp t (eqT_aggs e)
  simp only[qca,wg,wl]at this
  rcases ho with rfl|rfl<;>simp[eqGuard,this.1.2]
theorem qfe {op:BinOp} {t:TypeId} {x y:Operand} {va vb:Value} (h1:va≠ .nilIface) (h2:∀c,va≠ .agg c):(eqGuard op t x y va vb).run P w= .ok () w:=by
 cases op<;>first|rfl|(cases va<;>first|rfl|exact absurd rfl h1|exact absurd rfl (h2 _)|(cases vb<;>rfl))
theorem qpj {cmp:List TypeId} (hcmp:∀t∈cmp,qca P t=true) {op:BinOp} {t:TypeId} {x y:Operand} {a b:AVal} {va vb:Value} {u:AVal}
 (hx:VR S a va) (hy:VR S b vb) (e:binA P cmp op t (qbl x||qbl y) a b=some u):
 ∃v,((do eqGuard op t x y va vb;binOp op t va vb:Sem Value)).run P w= .ok v w∧VR S u v:=by
 unfold binA at e
 split at e
 ·rename_i k a k' b
  cases hx;cases hy
  simp only[Sem.run_bind,qfe (P:=P) (w:=w) (op:=op) (t:=t) (x:=x) (y:=y) (va:= .int k a) (vb:= .int k' b) (by simp) (by simp),Result.andThen_ok]
  have key:∀(op:BinOp) (h1:op≠ .shl) (h2:op≠ .shr),(if k=k' then qb7 op k a b else none)=some u→∃v,(binOp op t (.int k a) (.int k' b)).run P w= .ok v w∧VR S u v:=by
   intro op h1 h2 e'
   split at e'
   ·rename_i hk;subst hk;exact qm3 e' h1 h2 t
   ·cases e'
  split at e
  ·cases e
  ·cases e
  ·rename_i h1 h2
   exact key _ h1 h2 e
 ·rename_i a b
  cases hx with
  |str s l e1=>cases hy with
   |str s' l' e2=>
    have g:=qfe (P:=P) (w:=w) (op:=op) (t:=t) (x:=x) (y:=y) (va:= .string s) (vb:= .string s') (by simp) (by simp)
    have l1:=qfj e1
    have l2:=qfj e2
    subst e1;subst e2
    simp only[Sem.run_bind,g,Result.andThen_ok]
    split at e
    ·split at e
     ·rename_i hm
      cases e
      have h63:¬(((s.size+s'.size:Nat):Int)>IntKind.i64.max):=by
       rw[l1,l2]at hm
       simp only[qfq]at hm
       simp only[IntKind.max,IntKind.signed,IntKind.bits,if_true]
       omega
      refine⟨.string (s++s'),?_,.str _ _ (by simp)⟩
      simp only[binOp,Op.stringOp,if_neg h63,Sem.run_pure]
     ·cases e
    ·cases e
     refine⟨_,by simp only[binOp,Op.stringOp,Sem.run_pure];rfl,?_⟩
     rw[ByteArray.toList_eq,ByteArray.toList_eq]
     exact .bool _
    ·cases e
     refine⟨_,by simp only[binOp,Op.stringOp,Sem.run_pure];rfl,?_⟩
     rw[ByteArray.toList_eq,ByteArray.toList_eq]
     exact .bool _
    ·cases e
 ·rename_i n1 n2
  split at e
  ·rename_i op
   cases he:eqT P cmp t (qbl x||qbl y) a b with
   |none=>simp[he]at e
   |some r=>
    simp[he]at e;subst e
    have g:=qju (P:=P) (w:=w) hcmp hx hy he (.inl rfl)
    have q:=ql1 (P:=P) (w:=w) hcmp hx hy he
    refine⟨.bool r,?_,.bool _⟩
    simp only[Sem.run_bind,g,Result.andThen_ok]
    cases hx<;>cases hy<;>first
     |(exact(n1 _ _ _ _ rfl rfl).elim)
     |(exact(n2 _ _ rfl rfl).elim)
     |(simp only[binOp,Sem.run_bind,q,Result.andThen_ok,Sem.run_pure])
  ·rename_i op
   cases he:eqT P cmp t (qbl x||qbl y) a b with
   |none=>simp[he]at e
   |some r=>
    simp[he]at e;subst e
    have g:=qju (P:=P) (w:=w) hcmp hx hy he (.inr rfl)
    have q:=ql1 (P:=P) (w:=w) hcmp hx hy he
    refine⟨.bool !r,?_,.bool _⟩
    simp only[Sem.run_bind,g,Result.andThen_ok]
    cases hx<;>cases hy<;>first
     |(exact(n1 _ _ _ _ rfl rfl).elim)
     |(exact(n2 _ _ rfl rfl).elim)
     |(simp only[binOp,Sem.run_bind,q,Result.andThen_ok,Sem.run_pure])
  ·cases e
theorem unA_sound {op:UnOp} {a:AVal} {va:Value} {u:AVal} (hx:VR S a va) (e:unA op a=some u):∃v,(Op.unary op va).run P w= .ok v w∧VR S u v:=by
 cases hx<;>cases op<;>simp only[unA]at e<;>(try (cases e;done))
 ·cases e;exact⟨_,by simp only[Op.unary,Sem.run_pure],.bool _⟩
 ·cases e;exact⟨_,by simp only[Op.unary,Op.intArith,Sem.run_pure];rfl,by rw[qg4];exact .int _ _⟩
theorem qoc {s d:TypeId} {a:AVal} {va:Value} {u:AVal} (hx:VR S a va) (e:qi6 P s d a=some u):∃v,(convert s d va).run P w= .ok v w∧VR S u v:=by
 unfold qi6 at e
 split at e
 ·rename_i k1 k hs hd
  cases hx;cases e
  refine⟨_,by simp only[convert,Sem.run_bind,run_underlying hs,run_underlying hd,Result.andThen_ok,Conv.intToInt,Sem.run_pure];rfl,by rw[qg4];exact .int _ _⟩
 ·rename_i hs hd
  cases hx with
  |str s l e1=>
   cases e
   exact⟨_,by simp only[convert,Sem.run_bind,run_underlying hs,run_underlying hd,Result.andThen_ok,Sem.run_pure],.str _ _ e1⟩
 ·cases e
end Go.Ab
namespace Go.Ab
variable {P:Program} {S:Sh} {h:qaa} {w:World}
theorem qbg {v:AVal} {vv:Value} {max i:Nat} (hv:VR S v vv) (e:qe3 v max=some i) {y:Nat} (hy:max≤y) (code:BoundsCode):
 (Instr.sliceBound vv y code).run P w= .ok i w∧i≤max:=by
 unfold qe3 at e
 split at e
 ·rename_i k n
  cases hv
  split at e
  ·rename_i hc
   cases e
   refine⟨?_,by omega⟩
   simp only[Instr.sliceBound,asIntOf,Sem.run_bind,Sem.run_pure,Result.andThen_ok,Sem.run_ite]
   rw[if_pos ⟨hc.1,by omega⟩]
  ·cases e
 ·cases e
theorem qg5 {ts:List AVal} {a:Act} (ht:VRl S ts a.tmps.toList) {x:Option Operand} {r:Option AVal} (e:optA ts x=some r):
 (r=none∧x.map a.eval=none)∨∃u v,r=some u∧x.map a.eval=some v∧VR S u v:=by
 cases x with
 |none=>cases e;exact .inl ⟨rfl,rfl⟩
 |some o=>
  simp only[optA]at e
  cases hc:qab o ts with
  |none=>simp[hc]at e
  |some u=>simp[hc]at e;subst e;exact .inr ⟨u,_,rfl,rfl,qac ht hc⟩
theorem qkv {es:List (List AVal)} {esz s:Nat} (hsz:∀c∈es,c.length=esz) (hh:qcl s es=true) (hne:es≠[]):esz=s:=by
 cases es with
 |nil=>exact absurd rfl hne
 |cons c r=>have:=hsz c (by simp);simp[qcl]at hh;omega
theorem qeq (ad:Addr) (n:Nat) (h:n=0→ad.spot=none):ad.add n=⟨ad.block,ad.off+n,none⟩:=by
 unfold Addr.add
 split
 ·rename_i hn;subst hn;have:=h rfl;cases ad;simp_all
 ·rfl
theorem VR.piece {es:List (List AVal)} {tk tk':Tk} {ad:Addr} {n cap s l hh m:Nat} (hv:VR S (.slice es tk) (.slice (some ad) n cap)) (hs:qcl s es=true)
 (hl:l≤hh) (h1:hh≤n) (hm:hh≤m) (hmc:m≤cap)
 (htk:∀ad',(l=0∧hh=n∧m=cap→ad'=ad)→TkOk S tk' (hh-l) (m-l) ad'):
 VR S (.slice ((es.drop l).take (hh-l)) tk') (.slice (some (if m=l then ad else ad.add (l*s))) (hh-l) (m-l)):=by
 cases hv with
 |slice _ _ _ _ _ esz vs hn hc hcm hsp hsz g1 hp g2 ht=>
 by_cases hne:hh=l
 ·subst hne
  have e0:(es.drop hh).take (hh-hh)=[]:=by simp
  rw[e0]
  refine .slice [] tk' _ _ _ esz vs (by simp) (by omega) (by omega) (fun h=>absurd rfl h) (by simp) (fun i c j a hi=>by simp at hi) (by simp) (fun i c j a hi=>by simp at hi) (htk _ ?_)
  rintro⟨rfl,h2,h3⟩
  split
  ·rfl
  ·simp[Addr.add]
 ·have hes:es≠[]:=by intro e;subst e;simp at hn;omega
  have hspot:=hsp hes
  have hesz:=qkv hsz hs hes
  subst hesz
  rw[if_neg (by omega)]
  have hadd:ad.add (l*esz)=⟨ad.block,ad.off+l*esz,none⟩:=qeq ad _ (fun _=>hspot)
  have hget:∀(i:Nat) (c:List AVal),((es.drop l).take (hh-l))[i]? =some c→es[l+i]? =some c:=by
   intro i c hi
   rw[List.getElem?_take]at hi
   split at hi
   ·rw[we]at hi;exact hi
   ·cases hi
  have hmem:∀c∈(es.drop l).take (hh-l),c∈es:=fun c hc=>List.mem_of_mem_drop (List.mem_of_mem_take hc)
  have hidx:∀i j,ad.off+l*esz+(i*esz+j)=ad.off+((l+i)*esz+j):=by intro i j;rw[wo];omega
  have ht':=htk (ad.add (l*esz)) (by rintro⟨rfl,_,_⟩;simp[Addr.add])
  rw[hadd]at ht' ⊢
  refine .slice _ tk' _ _ _ esz (fun k=>vs (l*esz+k)) (by simp;omega) (by omega) (by omega) (fun _=>rfl) (fun c hc=>hsz c (hmem c hc)) ?_ (fun c hc=>hp c (hmem c hc)) ?_ ht'
  ·intro i c j a hi hj
   have:=g1 (l+i) c j a (hget i c hi) hj
   show S.M ⟨ad.block,ad.off+l*esz+(i*esz+j),none⟩=some (vs (l*esz+(i*esz+j)))
   rw[hidx,show l*esz+(i*esz+j)=(l+i)*esz+j by rw[wo];omega]
   exact this
  ·intro i c j a hi hj
   have:=g2 (l+i) c j a (hget i c hi) hj
   show VR S a (vs (l*esz+(i*esz+j)))
   rw[show l*esz+(i*esz+j)=(l+i)*esz+j by rw[wo];omega]
   exact this
theorem qeh {b:Bool} {len cap:Nat} {lo hi mx:Option Value} {l hh m:Nat}
 (hm:(mx=none∧m=cap)∨∃v,mx=some v∧∀c,(Instr.sliceBound v cap c).run P w= .ok m w)
 (hh':(hi=none∧mx=none∧hh=len)∨∃v,hi=some v∧∀c,(Instr.sliceBound v m c).run P w= .ok hh w)
 (hl:(lo=none∧l=0)∨∃v,lo=some v∧∀c,(Instr.sliceBound v hh c).run P w= .ok l w):
 (Instr.sliceBounds b len cap lo hi mx).run P w= .ok (l,hh,m) w:=by
 unfold Instr.sliceBounds
 rcases hm with⟨rfl,rfl⟩|⟨vm,rfl,hm⟩
 ·rcases hh' with⟨rfl,_,rfl⟩|⟨vh,rfl,hh'⟩
  ·rcases hl with⟨rfl,rfl⟩|⟨vl,rfl,hl⟩
   ·simp
   ·simp[hl]
  ·rcases hl with⟨rfl,rfl⟩|⟨vl,rfl,hl⟩
   ·simp[hh']
   ·simp[hl,hh']
 ·rcases hh' with⟨rfl,h0,rfl⟩|⟨vh,rfl,hh'⟩
  ·cases h0
  ·rcases hl with⟨rfl,rfl⟩|⟨vl,rfl,hl⟩
   ·simp[hm,hh']
   ·simp[hm,hl,hh']
theorem qm4 {t:TypeId} {x:AVal} {vx:Value} {lo hi mx:Option AVal} {vlo vhi vmx:Option Value} {u:AVal} (hx:VR S x vx)
 (hlo:(lo=none∧vlo=none)∨∃u v,lo=some u∧vlo=some v∧VR S u v)
 (hhi:(hi=none∧vhi=none)∨∃u v,hi=some u∧vhi=some v∧VR S u v)
 (hmx:(mx=none∧vmx=none)∨∃u v,mx=some u∧vmx=some v∧VR S u v)
 (e:qgm P t x lo hi mx=some u):∃v,(Instr.sliceAt t vx vlo vhi vmx).run P w= .ok v w∧VR S u v:=by
 unfold qgm at e
 split at e
 ·rename_i s hu
  cases hx with
  |str bs _ hb=>
  have hlen:=qfj hb
  rcases hmx with⟨rfl,rfl⟩|⟨um,vm,rfl,rfl,hm⟩
  ·simp only at e
   split at e
   ·cases e
   ·rename_i hh hhh
    split at e
    ·cases e
    ·rename_i l hl
     cases e
     have H:(hh≤s.length)∧((vhi=none∧(none:Option Value)=none∧hh=bs.size)∨∃v,vhi=some v∧∀c,(Instr.sliceBound v bs.size c).run P w= .ok hh w):=by
      rcases hhi with⟨rfl,rfl⟩|⟨uh,vh,rfl,rfl,hv⟩
      ·simp at hhh;subst hhh;exact⟨wa _,.inl ⟨rfl,rfl,hlen⟩⟩
      ·simp only at hhh
       exact⟨(qbg (P:=P) (w:=w) hv hhh (y:=s.length) (wa _) .index).2,.inr ⟨vh,rfl,fun c=>(qbg hv hhh (by omega) c).1⟩⟩
     have Lw:(l≤hh)∧((vlo=none∧l=0)∨∃v,vlo=some v∧∀c,(Instr.sliceBound v hh c).run P w= .ok l w):=by
      rcases hlo with⟨rfl,rfl⟩|⟨ul,vl,rfl,rfl,hv⟩
      ·simp at hl;subst hl;exact⟨w3 _,.inl ⟨rfl,rfl⟩⟩
      ·simp only at hl
       exact⟨(qbg (P:=P) (w:=w) hv hl (y:=hh) (wa _) .index).2,.inr ⟨vl,rfl,fun c=>(qbg hv hl (wa _) c).1⟩⟩
     have:=qeh (P:=P) (w:=w) (b:=false) (len:=bs.size) (cap:=bs.size) (lo:=vlo) (hi:=vhi) (mx:=none) (l:=l) (hh:=hh) (m:=bs.size) (.inl ⟨rfl,rfl⟩) H.2 Lw.2
     refine⟨.string (bs.extract l hh),?_,.str _ _ (by subst hb;simp[List.extract_eq_take_drop])⟩
     simp[Instr.sliceAt,Instr.slice,run_underlying hu,this]
  ·simp at e
 ·rename_i el es tk hu
  split at e
  ·cases e
  ·rename_i m hm
   split at e
   ·cases e
   ·rename_i hh hhh
    split at e
    ·cases e
    ·rename_i l hl
     split at e
     ·rename_i sz hsz
      split at e
      ·rename_i hho
       cases e
       have key:∀(A:Option Addr) (cap:Nat),es.length≤cap→∃m':Nat,(Instr.sliceBounds true es.length cap vlo vhi vmx).run P w= .ok (l,hh,m') w∧l≤hh∧hh≤es.length∧hh≤m'∧m'≤cap∧
        ((m=none∧m'=cap)∨m=some m'):=by
        intro A cap hcap
        have Hm:∃m':Nat,((vmx=none∧m'=cap)∨∃v,vmx=some v∧∀c,(Instr.sliceBound v cap c).run P w= .ok m' w)∧m'≤cap∧m.getD es.length≤m'∧((mx=none∧m=none∧m'=cap)∨(mx≠none∧m=some m')):=by
         rcases hmx with⟨rfl,rfl⟩|⟨um,vm,rfl,rfl,hv⟩
         ·simp at hm;subst hm
          exact⟨cap,.inl ⟨rfl,rfl⟩,wa _,by simpa using hcap,.inl ⟨rfl,rfl,rfl⟩⟩
         ·simp only at hm
          cases hb:qe3 um es.length with
          |none=>simp[hb]at hm
          |some m'=>
           simp[hb]at hm;subst hm
           exact⟨m',.inr ⟨vm,rfl,fun c=>(qbg hv hb hcap c).1⟩,Nat.le_trans (qbg (P:=P) (w:=w) hv hb (y:=es.length) (wa _) .index).2 hcap,by simp,.inr ⟨by simp,rfl⟩⟩
        obtain⟨m',g1,g2,g3,g4⟩:=Hm
        have hml:m.getD es.length≤es.length:=by
         rcases g4 with⟨_,rfl,_⟩|⟨hx,rfl⟩
         ·simp
         ·rcases hmx with⟨rfl,_⟩|⟨um,vm,rfl,rfl,hv⟩
          ·exact absurd rfl hx
          ·simp only at hm
           cases hb:qe3 um es.length with
           |none=>simp[hb]at hm
           |some q=>simp[hb]at hm;subst hm;exact(qbg (P:=P) (w:=w) hv hb (y:=es.length) (wa _) .index).2
        have H:(hh≤m.getD es.length)∧((vhi=none∧vmx=none∧hh=es.length)∨∃v,vhi=some v∧∀c,(Instr.sliceBound v m' c).run P w= .ok hh w):=by
         rcases hhi with⟨rfl,rfl⟩|⟨uh,vh,rfl,rfl,hv⟩
         ·simp only at hhh
          rcases g4 with⟨rfl,rfl,rfl⟩|⟨_,rfl⟩
          ·simp at hhh;subst hhh
           refine⟨by simp,.inl ⟨rfl,?_,rfl⟩⟩
           rcases hmx with⟨_,rfl⟩|⟨um,vm,h0,_⟩
           ·rfl
           ·cases h0
          ·simp at hhh
         ·simp only at hhh
          have hb:=qbg (P:=P) (w:=w) hv hhh (y:=m') g3
          exact⟨(hb .index).2,.inr ⟨vh,rfl,fun c=>(hb c).1⟩⟩
        have Lw:(l≤hh)∧((vlo=none∧l=0)∨∃v,vlo=some v∧∀c,(Instr.sliceBound v hh c).run P w= .ok l w):=by
         rcases hlo with⟨rfl,rfl⟩|⟨ul,vl,rfl,rfl,hv⟩
         ·simp at hl;subst hl;exact⟨w3 _,.inl ⟨rfl,rfl⟩⟩
         ·simp only at hl
          exact⟨(qbg (P:=P) (w:=w) hv hl (y:=hh) (wa _) .index).2,.inr ⟨vl,rfl,fun c=>(qbg hv hl (wa _) c).1⟩⟩
        refine⟨m',qeh g1 H.2 Lw.2,Lw.1,by omega,by omega,g2,?_⟩
        rcases g4 with⟨_,h1,h2⟩|⟨_,h1⟩
        ·exact .inl ⟨h1,h2⟩
        ·exact .inr h1
       cases hx with
       |slice _ _ ad n cap esz vs hn hc hcm hsp hsz' g1 hp g2 ht=>
        obtain⟨m',hr,k1,k2,k3,k4,k5⟩:=key (some ad) cap (by omega)
        have hv:VR S (.slice es tk) (.slice (some ad) n cap):= .slice es tk ad n cap esz vs hn hc hcm hsp hsz' g1 hp g2 ht
        subst hn
        refine⟨_,?_,hv.piece (tk':=qi7 tk l hh es.length m) hho k1 k2 k3 k4 ?_⟩
        ·simp[Instr.sliceAt,Instr.slice,run_underlying hu,hr,qa5 hsz]
         split<;>rfl
        ·intro ad' hb
         unfold qi7
         rcases k5 with⟨rfl,rfl⟩|rfl
         ·simp only
          split
          ·rename_i hc0
           have:=hb ⟨hc0.1,hc0.2,rfl⟩
           subst this
           rw[hc0.1,hc0.2];simpa using ht
          ·split
           ·rename_i hc1
            cases tk with
            |full=>simp only[TkOk]at ht ⊢;omega
            |free=>trivial
            |own t=>trivial
            |zero=>trivial
           ·trivial
         ·simp only
          split
          ·rename_i hc2;simp only[TkOk];omega
          ·trivial
       |snil _ htk=>
        obtain⟨m',hr,k1,k2,k3,k4,k5⟩:=key none 0 (by simp)
        simp only[List.length_nil]at k2 k4 hr
        have e1:hh=0:=by omega
        have e2:l=0:=by omega
        have e3:m'=0:=by omega
        subst e1;subst e2;subst e3
        refine⟨.slice none 0 0,?_,?_⟩
        ·simp[Instr.sliceAt,Instr.slice,run_underlying hu,hr,qa5 hsz]
        ·simp only[List.drop_nil,List.take_nil]
         refine .snil _ ?_
         unfold qi7
         rcases k5 with⟨rfl,_⟩|rfl
         ·simpa using htk
         ·simp
      ·cases e
     ·cases e
 ·rename_i el es b n m hu
  split at e
  ·rename_i v sz hsz
   split at e
   ·rename_i hh hb
    split at e
    ·rename_i hle
     cases e
     cases hx with
     |ms _ _ _ _ ad cap h0 hn hm hc hcm ht hsp=>
      rcases hlo with⟨_,rfl⟩|⟨_,_,h,_⟩
      rotate_left
      ·cases h
      rcases hmx with⟨_,rfl⟩|⟨_,_,h,_⟩
      rotate_left
      ·cases h
      rcases hhi with⟨h,_⟩|⟨u,vh,h,rfl,hv⟩
      ·cases h
      cases h
      have hbs:=fun c=>qbg (P:=P) (w:=w) hv hb (y:=cap) hc c
      have hr:=qeh (P:=P) (w:=w) (b:=true) (len:=m) (cap:=cap) (lo:=none) (hi:=some vh) (mx:=none) (l:=0) (hh:=hh) (m:=cap) (.inl ⟨rfl,rfl⟩) (.inr ⟨vh,rfl,fun c=>(hbs c).1⟩) (.inl ⟨rfl,rfl⟩)
      refine⟨.slice (some ad) hh cap,?_,.ms es b n hh ad cap h0 hle (hbs .index).2 hc hcm ht hsp⟩
      simp[Instr.sliceAt,Instr.slice,run_underlying hu,hr,qa5 hsz]
      intro _
      rw[qeq ad 0 (fun _=>hsp)]
      cases ad
      simp_all
    ·cases e
   ·cases e
  ·cases e
 ·cases e
end Go.Ab
namespace Go.Ab
variable {P:Program} {S:Sh} {h:qaa} {w:World}
theorem qfg {s:TypeId} {i off:Nat} {ft:TypeId} (e:qa4 P s i=some (off,ft)):
 ∃fs f n,P.underlying s=some (.struct fs)∧fs[i]? =some f∧f.offset=off∧f.type=ft∧qah P ft=some (n+1):=by
 unfold qa4 at e
 split at e
 ·rename_i fs hu
  split at e
  ·rename_i f hf
   split at e
   ·rename_i n hn;cases e;exact⟨fs,f,n,hu,hf,rfl,rfl,hn⟩
   ·cases e
  ·cases e
 ·cases e
theorem qff {s:TypeId} {i off:Nat} {ft:TypeId} {r o:Nat} (e:qa4 P s i=some (off,ft)):
 (Instr.fieldAt s (.pointer (some ⟨r,o,none⟩)) i).run P w= .ok (.pointer (some ⟨r,o+off,none⟩)) w:=by
 obtain⟨fs,f,n,hu,hf,rfl,rfl,hn⟩:=qfg e
 simp[Instr.fieldAt,run_underlying hu,hf,Instr.sureAddr,fieldPlace,qa5 hn,Addr.add_lit]
theorem qod {t:TypeId} {i off:Nat} {ft:TypeId} {cs:List AVal} {x:Array Value} {u:AVal} (e:qa4 P t i=some (off,ft)) (hx:VRl S cs x.toList)
 (e2:qbp P ft cs off=some u):∃v,(Instr.field t (.agg x) i).run P w= .ok v w∧VR S u v:=by
 obtain⟨fs,f,n,hu,hf,rfl,rfl,hn⟩:=qfg e
 obtain⟨v,hv,hr⟩:=qku (P:=P) (w:=w) hx e2
 exact⟨v,by simp[Instr.field,run_underlying hu,hf,asAgg,hv],hr⟩
theorem qkw {t e:TypeId} {es:List (List AVal)} {tk:Tk} {vx:Value} {k:IntKind} {n:Int} {cs:List AVal} (hu:P.underlying t=some (.slice e))
 (hx:VR S (.slice es tk) vx) (hc:es[n.toNat]? =some cs) (hs:qah P e=some cs.length) (h0:0≤n):
 ∃v,(Instr.indexAt t vx (.int k n)).run P w= .ok v w∧VR S (.eptr cs 0) v:=by
 cases hx with
 |slice _ _ ad m cap esz vs hn hc' hcm hsp hsz g1 hp g2 ht=>
  have hlt:n.toNat<es.length:=(List.getElem?_eq_some_iff.1 hc).1
  have hmem:cs∈es:=wj hc
  have hes:es≠[]:=by intro e;subst e;simp at hlt
  have hl:esz=cs.length:=(hsz cs hmem).symm
  subst hl
  have hadd:ad.add (n.toNat*cs.length)=⟨ad.block,ad.off+n.toNat*cs.length,none⟩:=qeq ad _ (fun _=>hsp hes)
  have hb:0≤n∧n<(m:Int):=⟨h0,by omega⟩
  refine⟨.pointer (some ⟨ad.block,ad.off+n.toNat*cs.length+0,none⟩),?_,?_⟩
  ·simp[Instr.indexAt,asIntOf,run_underlying hu,hb,qa5 hs,hadd]
  ·refine .eptr cs 0 ad.block (ad.off+n.toNat*cs.length) (fun j=>vs (n.toNat*cs.length+j)) ?_ (hp cs hmem) ?_
   ·intro j a hj
    rw[wu]
    exact g1 n.toNat cs j a hc hj
   ·intro j a hj
    exact g2 n.toNat cs j a hc hj
 |snil _ htk=>simp at hc
theorem qm5 {t e:TypeId} {es:List (List AVal)} {b q m:Nat} {vx:Value} {k:IntKind} {n:Int} {s:Nat} (hu:P.underlying t=some (.slice e))
 (hx:VR S (.ms es b q m) vx) (hs:qah P e=some s) (h0:0≤n) (h1:n<m):
 (∀cs,es[n.toNat]? =some cs→cs.length=s→∃v,(Instr.indexAt t vx (.int k n)).run P w= .ok v w∧VR S (.eptr cs 0) v)∧
  ∃v,(Instr.indexAt t vx (.int k n)).run P w= .ok v w∧VR S (.mptr b (n.toNat*s) q) v:=by
 cases hx with
 |ms _ _ _ _ ad cap he hn hm hc hcm ht hsp0=>
  have hb:0≤n∧n<(m:Int):=⟨h0,h1⟩
  have hrun:(Instr.indexAt t (.slice (some ad) m cap) (.int k n)).run P w= .ok (.pointer (some (ad.add (n.toNat*s)))) w:=by
   simp[Instr.indexAt,asIntOf,run_underlying hu,hb,qa5 hs]
  refine⟨fun cs hcs hl=> ?_,_,hrun,?_⟩
  ·cases he with
   |slice _ _ _ q _ esz vs hn' hc' _ hsp hsz g1 hp g2 _=>
    have hmem:cs∈es:=wj hcs
    have hes:es≠[]:=by intro e;subst e;cases hmem
    have hle:esz=s:=by rw[←hl];exact(hsz cs hmem).symm
    subst hle
    have hadd:ad.add (n.toNat*esz)=⟨ad.block,ad.off+n.toNat*esz,none⟩:=qeq ad _ (fun _=>hsp hes)
    rw[hadd]at hrun
    refine⟨_,hrun,?_⟩
    refine .eptr cs 0 ad.block (ad.off+n.toNat*esz) (fun j=>vs (n.toNat*esz+j)) ?_ (hp cs hmem) ?_
    ·intro j a hj
     rw[wu]
     exact g1 n.toNat cs j a hcs hj
    ·intro j a hj
     exact g2 n.toNat cs j a hcs hj
  ·obtain⟨r,c,l,t1,t2,t3,t4⟩:=ht
   rw[qeq ad _ (fun _=>hsp0)]
   exact .mptr _ _ _ _ _ ⟨r,c,l,t1,t2,fun e=>by rw[(t4 e).1];simp⟩
theorem qkx {t e:TypeId} {len s:Nat} {r o:Nat} {k:IntKind} {n:Int} (hu:P.underlying t=some (.array len e)) (hs:qah P e=some s) (h0:0≤n) (h1:n<len):
 (Instr.indexAt t (.pointer (some ⟨r,o,none⟩)) (.int k n)).run P w= .ok (.pointer (some ⟨r,o+n.toNat*s,none⟩)) w:=by
 have hb:0≤n∧n<(len:Int):=⟨h0,h1⟩
 simp[Instr.indexAt,asIntOf,run_underlying hu,Instr.sureAddr,hb,qa5 hs,Addr.add_lit]
theorem qm6 {t:TypeId} {s:List UInt8} {vx:Value} {k:IntKind} {n:Int} {b:UInt8} (hu:P.underlying t=some .string) (hx:VR S (.str s) vx) (hb:s[n.toNat]? =some b) (h0:0≤n):
 (Instr.index t vx (.int k n)).run P w= .ok (.int .u8 b.toNat) w:=by
 cases hx with
 |str bs _ e=>
  subst e
  have:bs[n.toNat]? =some b:=by
   have:bs[n.toNat]? =bs.data[n.toNat]? :=rfl
   rw[this];rw[wh]at hb;exact hb
  simp[Instr.index,asIntOf,run_underlying hu,h0,this]
theorem qoe {t e:TypeId} {len s:Nat} {cs:List AVal} {x:Array Value} {k:IntKind} {n:Int} {u:AVal} (hu:P.underlying t=some (.array len e)) (hs:qah P e=some s)
 (hx:VRl S cs x.toList) (h0:0≤n) (h1:n<len) (e2:qbp P e cs (n.toNat*s)=some u):
 ∃v,(Instr.index t (.agg x) (.int k n)).run P w= .ok v w∧VR S u v:=by
 have hb:0≤n∧n<(len:Int):=⟨h0,h1⟩
 obtain⟨v,hv,hr⟩:=qku (P:=P) (w:=w) hx e2
 exact⟨v,by simp[Instr.index,asIntOf,run_underlying hu,hb,qa5 hs,hv],hr⟩
theorem qdf:∀{cs:List AVal} {n:Nat} {vs r:List AVal},qai cs n vs=some r→n+vs.length≤cs.length∧r=cs.take n++vs++cs.drop (n+vs.length)
 |cs,0,vs,r,e=>by
  cases cs with
  |nil=>
   simp only[qai]at e
   split at e
   ·rename_i hl;cases e;exact⟨by omega,by simp⟩
   ·cases e
  |cons c cs=>
   simp only[qai]at e
   split at e
   ·rename_i hl;cases e;exact⟨by omega,by simp⟩
   ·cases e
 |[],n+1,vs,r,e=>by simp[qai]at e
 |c::cs,n+1,vs,r,e=>by
  simp only[qai]at e
  cases hs:qai cs n vs with
  |none=>simp[hs]at e
  |some q=>
   simp[hs]at e;subst e
   obtain⟨h1,h2⟩:=qdf hs
   refine⟨by simp;omega,?_⟩
   subst h2
   rw[show n+1+vs.length=(n+vs.length)+1 by omega]
   simp
theorem ql2:∀(vs:List Value) (off k:Nat) (cells:Array Value),off+k+vs.length≤cells.size→
 ((vs.zipIdx k).foldl (fun(cs:Array Value) (p:Value×Nat)=>cs.setIfInBounds (off+p.2) p.1) cells).toList=cells.toList.take (off+k)++vs++cells.toList.drop (off+k+vs.length)
 |[],off,k,cells,hl=>by simp
 |v::vs,off,k,cells,hl=>by
  simp only[wq]at hl
  simp only[List.zipIdx_cons,List.foldl_cons]
  rw[ql2 vs off (k+1) _ (by simp;omega)]
  simp only[Array.toList_setIfInBounds,wq]
  have h1:(cells.toList.set (off+k) v).take (off+(k+1))=cells.toList.take (off+k)++[v]:=by
   apply wm
   intro i
   by_cases hi:i<off+k
   ·rw[wc (by omega),wk (by omega),List.getElem?_append_left (by simp;omega),wc hi]
   ·by_cases h2:i=off+k
    ·subst h2
     rw[wc (by omega),List.getElem?_set_self (by simp;omega),List.getElem?_append_right (by rw[ws,wb];omega)]
     rw[ws,wb,Nat.min_eq_left (by omega)]
     simp
    ·rw[wi (by simp;omega),wi (by simp;omega)]
  have h2:(cells.toList.set (off+k) v).drop (off+(k+1)+vs.length)=cells.toList.drop (off+k+(vs.length+1)):=by
   apply wm
   intro i
   rw[we,we,wk (by omega)]
   congr 1
   omega
  rw[h1,h2]
  simp
theorem qe5 {pa:Nat→Option (Nat×Nat)} {pv:Nat→Option (Nat×Nat)} (hp:∀i x,pa i=some x→pv i=some x):
 ∀{us:List (Nat×AVal)} {vs:List (Nat×Value)} {cs r:List AVal} {x:Array Value},us.map w4=vs.map w4→VRl S (us.map w5) (vs.map w5)→VRl S cs x.toList→
  qa2 pa cs us=some r→∃y:Array Value,Instr.fill pv x vs=some y∧VRl S r y.toList
 |[],vs,cs,r,x,hf,_,hx,e=>by
  cases vs with
  |nil=>cases e;exact⟨x,rfl,hx⟩
  |cons v vs=>simp at hf
 |(i,u)::us,vs,cs,r,x,hf,hs,hx,e=>by
  cases vs with
  |nil=>simp at hf
  |cons v vs=>
   obtain⟨i',v⟩:=v
   simp only[ww,List.cons.injEq]at hf
   obtain⟨rfl,hf⟩:=hf
   simp only[ww]at hs
   have hv:=hs.head.cells
   unfold qa2 at e
   split at e
   ·cases e
   ·rename_i off size hpl
    split at e
    ·rename_i hl
     split at e
     ·rename_i cs' hc
      obtain⟨h1,h2⟩:=qdf hc
      have hlv:v.cells.size=u.cells.length:=by rw[hv.1,wb]
      have hlx:x.size=cs.length:=by rw[hx.1,wb]
      have hfold:=ql2 v.cells.toList off 0 x (by simp;omega)
      let y:=v.cells.zipIdx.foldl (fun(cs:Array Value) (p:Value×Nat)=>cs.setIfInBounds (off+p.2) p.1) x
      have hy:y.toList=x.toList.take off++v.cells.toList++x.toList.drop (off+u.cells.length):=by
       have:y=(v.cells.toList.zipIdx 0).foldl (fun(cs:Array Value) (p:Value×Nat)=>cs.setIfInBounds (off+p.2) p.1) x:=by
        show v.cells.zipIdx.foldl _ _=_
        rw[←Array.foldl_toList,Array.toList_zipIdx]
       rw[this,hfold]
       simp[hlv]
      have hr:VRl S cs' y.toList:=by
       rw[hy,h2]
       exact((hx.take _).append hv).append (hx.drop _)
      obtain⟨z,hz,hzr⟩:=qe5 hp hf hs.tail hr e
      refine⟨z,?_,hzr⟩
      unfold Instr.fill
      simp only[hp _ _ hpl]
      rw[if_neg]
      ·exact hz
      ·simp;omega
     ·cases e
    ·cases e
theorem qky (w:World):∀(fs:List Field),(∀f∈fs,(P.info? f.type).isSome=true)→
 (fs.mapM (fun f=>do pure (f.offset,←sizeOf f.type):Field→Sem (Nat×Nat))).run P w= .ok (fs.map fun f=>(f.offset,P.cellsOf f.type)) w
 |[],_=>rfl
 |f::fs,hf=>by
  have h1:=hf f (by simp)
  obtain⟨i,hi⟩:=Option.isSome_iff_exists.1 h1
  have ih:=qky w fs (fun g hg=>hf g (by simp[hg]))
  simp[List.mapM_cons,sizeOf,typeInfo,hi,Program.cellsOf]at ih ⊢
  rw[ih]
  simp
theorem qm7 {t:TypeId} {fs:Array Field} {z:List AVal} {ps:Array (Nat×Operand)} {us:List (Nat×AVal)} {ts:List AVal} {a:Act} {r:List AVal} (ht:VRl S ts a.tmps.toList)
 (hz:qap P t=some (.agg z)) (hu:P.underlying t=some (.struct fs)) (hp:qar ts ps.toList=some us) (hall:fs.all (fun f=>(P.info? f.type).isSome)=true)
 (e:qa2 (fun i=>match fs[i]? with|some f=>(qah P f.type).map fun s=>(f.offset,s)|none=>none) z us=some r):
 ∃v,(Instr.build t (ps.map fun(i,x)=>(i,a.eval x))).run P w= .ok v w∧VR S (.agg r) v:=by
 obtain⟨vz,hvz,hrz⟩:=qdm hz w S
 obtain⟨x,rfl,hx⟩:=hrz.inv_agg
 obtain⟨h1,h2⟩:=qef ht hp
 have hpl:=qky (P:=P) w fs.toList (fun f hf=>by
  rw[wd]at hall
  exact hall f (by simpa using hf))
 have hmap:(fs.mapM (fun f=>do pure (f.offset,←sizeOf f.type):Field→Sem (Nat×Nat))).run P w= .ok (fs.map fun f=>(f.offset,P.cellsOf f.type)) w:=by
  rw[Array.mapM_eq_mapM_toList,Sem.run_map,hpl]
  simp only[Result.andThen_ok]
  congr 1
  apply Array.ext'
  simp
 obtain⟨y,hy,hyr⟩:=qe5 (S:=S) (pa:=fun i=>match fs[i]? with|some f=>(qah P f.type).map fun s=>(f.offset,s)|none=>none)
  (pv:=fun i=>(fs.map fun f=>(f.offset,P.cellsOf f.type))[i]?) (fun i q hq=>by
   cases hf:fs[i]? with
   |none=>simp[hf]at hq
   |some f=>
    simp only[hf]at hq
    simp only[Array.getElem?_map,hf,Option.map_some]
    cases hs:qah P f.type with
    |none=>simp[hs]at hq
    |some s=>
     simp[hs]at hq
     obtain⟨i,hi,rfl⟩:=qdr hs
     simp[Program.cellsOf,hi,hq]) (vs:=(ps.map fun(i,x)=>(i,a.eval x)).toList) (x:=x) (by
    rw[h1];simp) (by rw[wt,wz];exact h2) hx e
 refine⟨.agg y,?_,by have:=VR.agg' hyr;simpa using this⟩
 simp only[Instr.build,Sem.run_bind,hvz,Result.andThen_ok,run_underlying hu,hmap]
 rw[show(Value.agg x).cells=x from rfl,hy]
 rfl
theorem qof {t el:TypeId} {n s:Nat} {z:List AVal} {ps:Array (Nat×Operand)} {us:List (Nat×AVal)} {ts:List AVal} {a:Act} {r:List AVal} (ht:VRl S ts a.tmps.toList)
 (hz:qap P t=some (.agg z)) (hu:P.underlying t=some (.array n el)) (hp:qar ts ps.toList=some us) (hs:qah P el=some s)
 (e:qa2 (fun i=>some (i*s,s)) z us=some r):
 ∃v,(Instr.build t (ps.map fun(i,x)=>(i,a.eval x))).run P w= .ok v w∧VR S (.agg r) v:=by
 obtain⟨vz,hvz,hrz⟩:=qdm hz w S
 obtain⟨x,rfl,hx⟩:=hrz.inv_agg
 obtain⟨h1,h2⟩:=qef ht hp
 obtain⟨y,hy,hyr⟩:=qe5 (S:=S) (pa:=fun i=>some (i*s,s)) (pv:=fun i=>some (i*s,s)) (fun i q hq=>hq) (vs:=(ps.map fun(i,x)=>(i,a.eval x)).toList) (x:=x) (by
  rw[h1];simp) (by rw[wt,wz];exact h2) hx e
 refine⟨.agg y,?_,by have:=VR.agg' hyr;simpa using this⟩
 simp only[Instr.build,Sem.run_bind,hvz,Result.andThen_ok,run_underlying hu,qa5 hs]
 rw[show(Value.agg x).cells=x from rfl,hy]
 rfl
end Go.Ab
