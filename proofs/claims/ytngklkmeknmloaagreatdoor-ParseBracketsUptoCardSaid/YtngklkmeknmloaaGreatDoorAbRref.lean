/- The reference: which expressions, equations, items may be. -/
import Derived.Test.YtngklkmeknmloaaGreatDoorAbEach
set_option linter.unusedSimpArgs false
set_option linter.unusedVariables false
set_option maxRecDepth 100000
set_option maxHeartbeats 4000000
open Go.Proofs
open Int renaming natCast_zero→wa,natCast_nonneg→w6
open List renaming drop_length→wb,append_nil→wc,drop_eq_getElem_cons→wd,drop_left→we,all_cons→wh,drop_eq_nil_of_le→wi,getElem_mem→wm,drop_zero→wq,forall_mem_cons→wt,any_eq_not_all_not→ww,isEmpty_cons→w7,isEmpty_nil→w9,any_cons→wga
open Bool renaming not_not→wg,and_false→wj,true_and→wk,false_and→wo,false_eq_true→wv,eq_iff_iff→waa,not_false→wba,and_assoc→wca,not_true→wda,and_true→wea,and_comm→wfa
open Nat renaming zero_le→wu
open Classical renaming not_and_iff_not_or_not→wz,not_not→w8
namespace Go.Ab
open Go Go.Ab.Tab
theorem u8_beq (c:UInt8):(((c.toNat:Nat):Int)==95)=(c==95):=by
 rw[waa]
 simp only[beq_iff_eq]
 constructor
 ·intro h
  have h1:c.toNat=95:=by omega
  exact UInt8.toNat_inj.1 (by rw[h1];rfl)
 ·intro h;subst h;rfl
theorem gt1 (n:Nat):decide ((1:Int)<((n+1+1:Nat):Int))=true:=decide_eq_true (by omega)
theorem gt11:decide ((1:Int)<((0+1:Nat):Int))=false:=by decide
theorem gt12:decide ((1:Int)<((1:Nat):Int))=false:=by decide
theorem gt10:decide ((1:Int)<((0:Nat):Int))=false:=by decide
theorem le1n (n:Nat):((1:Int)≤((n+1:Nat):Int))=True:=eq_true (by omega)
theorem le1m (n:Nat):((1:Int)≤((n+1+1:Nat):Int))=True:=eq_true (by omega)
theorem get_c0 (c:UInt8) (r:Str):(c::r)[0]? =some c:=rfl
theorem qm0 (made:Bool) (s:Str) (hs:s.length≤qac):Ret C 109 [.str s,.bool made] (.bool (qbh made s)):=by
 refine Ret.mk rfl rfl ?_
 have e1:=risName_c (qfj made s) (qlo made s hs)
 unfold qbh
 cases made with
 |false=>
  have e2:qfj false s=s:=by cases s<;>simp[qfj]
  rw[e2]at e1 ⊢
  rw[C_fn rfl Tryz.func109 rfl (by kernel_rfl) (m:=18) rfl];simp only[Z3,simprocAttr,Tryz.f109,qpd,e1 _]
 |true=>
  cases s with
  |nil=>
   simp only[qfj]at e1 ⊢
   rw[C_fn rfl Tryz.func109 rfl (by kernel_rfl) (m:=18) rfl];simp only[Z3,simprocAttr,Tryz.f109,qpd,gt10,e1 _]
  |cons c r=>
   cases r with
   |nil=>
    simp only[qfj,w9,wda,wj,wv,if_false]at e1 ⊢
    rw[C_fn rfl Tryz.func109 rfl (by kernel_rfl) (m:=18) rfl];simp only[Z3,simprocAttr,Tryz.f109,qpd,gt11,gt12,top1,e1 _]
   |cons d t=>
    simp only[qfj,w7,wba,wea,wk]at e1 ⊢
    have hs':t.length+1+1≤qac:=hs
    rw[C_fn rfl Tryz.func109 rfl (by kernel_rfl) (m:=18) rfl];simp only[Z3,simprocAttr,Tryz.f109,qpd,gt1,hs',get_c0,u8_beq]
    cases hc:c==95
    ·simp only[hc,wv,if_false]at e1
     simp only[Z3,simprocAttr,qpd,hc,e1 _]
    ·simp only[hc,if_true]at e1
     simp only[Z3,simprocAttr,qpd,hc,sl_lo,le1m,le1n,ge1,le1,e1 _]
theorem rcon_c (made:Bool) (s:Str) (hs:s.length≤qac):Ret C 108 [.str s,.bool made] (.bool (conB made s)):=by
 refine Ret.mk rfl rfl ?_
 have e1:=risCon_c (qfj made s) (qlo made s hs)
 unfold conB
 cases made with
 |false=>
  have e2:qfj false s=s:=by cases s<;>simp[qfj]
  rw[e2]at e1 ⊢
  rw[C_fn rfl Tryz.func108 rfl (by kernel_rfl) (m:=18) rfl];simp only[Z3,simprocAttr,Tryz.f108,qpc,e1 _]
 |true=>
  cases s with
  |nil=>
   simp only[qfj]at e1 ⊢
   rw[C_fn rfl Tryz.func108 rfl (by kernel_rfl) (m:=18) rfl];simp only[Z3,simprocAttr,Tryz.f108,qpc,gt10,e1 _]
  |cons c r=>
   cases r with
   |nil=>
    simp only[qfj,w9,wda,wj,wv,if_false]at e1 ⊢
    rw[C_fn rfl Tryz.func108 rfl (by kernel_rfl) (m:=18) rfl];simp only[Z3,simprocAttr,Tryz.f108,qpc,gt11,gt12,top1,e1 _]
   |cons d t=>
    simp only[qfj,w7,wba,wea,wk]at e1 ⊢
    have hs':t.length+1+1≤qac:=hs
    rw[C_fn rfl Tryz.func108 rfl (by kernel_rfl) (m:=18) rfl];simp only[Z3,simprocAttr,Tryz.f108,qpc,gt1,hs',get_c0,u8_beq]
    cases hc:c==95
    ·simp only[hc,wv,if_false]at e1
     simp only[Z3,simprocAttr,qpc,hc,e1 _]
    ·simp only[hc,if_true]at e1
     simp only[Z3,simprocAttr,qpc,hc,sl_lo,le1m,le1n,ge1,le1,e1 _]
theorem rnames_c (made:Bool) (l:List Str) (hl0:qek l) (least most:Int):Ret C 58 [qaf l,.int .i64 least,.int .i64 most,.bool made] (.bool (qcr made l least most)):=by
 refine Ret.mk rfl rfl ?_
 have hl1:=hl0.1
 have ce:=fun(x:Str) hx=>qm0 made x (hl0.2 x hx)
 have hsp:qcr made l least most=((l.all fun x=>qbh made x) && decide (least≤(l.length:Int)) && decide ((l.length:Int)≤most)):=by
  unfold qcr
  rw[ww]
  simp only[wg]
  rw[wfa,wca]
 rw[hsp]
 rw[C_fn rfl Tryz.func58 rfl (by kernel_rfl) (m:=29) rfl];simp only[Z3,simprocAttr,Tryz.f58,qmm,qaf]
 generalize hb:qam PP cmp0 C lpC _=f;generalize hl:lpC f _=r
 obtain⟨ex,s',rfl,h2⟩:=qc3 (α:=Nat) hl [8,10,11,12,13,14,15,16,17,18,19,20,21,22] (fun i=>[(9,.int .i64 i)]) (fun i=>i≤l.length) (fun i=>l.length-i) (fun i=>(l.drop i).all fun x=>qbh made x)
  (qfv 0 [8,9,10,11,12,13,14,15,16,17,18,19,20,21,22] [9,10,11,12,13,14,15,16,17,18,19,20,21,22] 8) 0 (wu _) (by simp only[At,ats,wa,we,wb,wc]) (by
   intro i j H d hi
   clear hl;subst hb
   by_cases hlt:i<l.length
   ·have e1:((i:Int)<(l.length:Int)):=by omega
    have e3:(l.map (fun s=>[AVal.str s]))[i]? =some ((fun s=>[AVal.str s]) l[i]):=by simp[hlt]
    have hm:=wm hlt
    have c1:=ce l[i] hm
    simp only[Z3,simprocAttr,qmm,ty,e1,e3,c1 _,qaf]
    cases hc0:qbh made l[i]
    ·simp only[Z3,simprocAttr,qmm,ty,e1,e3,c1 _,qaf,hc0]
     exact .inr ⟨_,_,rfl,by simp,.inr ⟨by simp only[wd hlt,wh,hc0,wo,wj],rfl,by simp only[At,ats,wa,we,wb,wc]⟩⟩
    ·simp only[Z3,simprocAttr,qmm,ty,e1,e3,c1 _,qaf,hc0,qav (show i≤qac by omega)]
     exact .inl ⟨i+1,_,rfl,hlt,by simp only[At,ats,wa,we,wb,wc],by simp only[];omega,by simp only[wd hlt,wh,hc0,wk]⟩
   ·have e1:¬((i:Int)<(l.length:Int)):=by omega
    simp only[Z3,simprocAttr,qmm,e1,qaf]
    exact .inr ⟨_,_,rfl,by simp,.inl ⟨by simp only[];rw[wi (by omega)];rfl,rfl,by simp only[At,ats,wa,we,wb,wc]⟩⟩)
 rw[wq]at h2
 rcases h2 with⟨hr1,rfl,h2⟩|⟨hr1,rfl,h2⟩
 ·obtain⟨j,H,d,rfl⟩:=h2.elim
  clear hl
  simp only[Z3,simprocAttr,qmm,hr1]
  cases h1:decide (least≤(l.length:Int))
  ·simp only[Z3,simprocAttr,qmm,h1]
  ·simp only[Z3,simprocAttr,qmm,h1]
 ·obtain⟨j,H,d,rfl⟩:=h2.elim
  clear hl
  simp only[Z3,simprocAttr,qmm,hr1]
theorem rcons_c (made:Bool) (l:List Str) (hl0:qek l) (least most:Int):Ret C 57 [qaf l,.int .i64 least,.int .i64 most,.bool made] (.bool (qc6 made l least most)):=by
 refine Ret.mk rfl rfl ?_
 have hl1:=hl0.1
 have ce:=fun(x:Str) hx=>rcon_c made x (hl0.2 x hx)
 have hsp:qc6 made l least most=((l.all fun x=>conB made x) && decide (least≤(l.length:Int)) && decide ((l.length:Int)≤most)):=by
  unfold qc6
  rw[ww]
  simp only[wg]
  rw[wfa,wca]
 rw[hsp]
 rw[C_fn rfl Tryz.func57 rfl (by kernel_rfl) (m:=29) rfl];simp only[Z3,simprocAttr,Tryz.f57,qml,qaf]
 generalize hb:qam PP cmp0 C lpC _=f;generalize hl:lpC f _=r
 obtain⟨ex,s',rfl,h2⟩:=qc3 (α:=Nat) hl [8,10,11,12,13,14,15,16,17,18,19,20,21,22] (fun i=>[(9,.int .i64 i)]) (fun i=>i≤l.length) (fun i=>l.length-i) (fun i=>(l.drop i).all fun x=>conB made x)
  (qfv 0 [8,9,10,11,12,13,14,15,16,17,18,19,20,21,22] [9,10,11,12,13,14,15,16,17,18,19,20,21,22] 8) 0 (wu _) (by simp only[At,ats,wa,we,wb,wc]) (by
   intro i j H d hi
   clear hl;subst hb
   by_cases hlt:i<l.length
   ·have e1:((i:Int)<(l.length:Int)):=by omega
    have e3:(l.map (fun s=>[AVal.str s]))[i]? =some ((fun s=>[AVal.str s]) l[i]):=by simp[hlt]
    have hm:=wm hlt
    have c1:=ce l[i] hm
    simp only[Z3,simprocAttr,qml,ty,e1,e3,c1 _,qaf]
    cases hc0:conB made l[i]
    ·simp only[Z3,simprocAttr,qml,ty,e1,e3,c1 _,qaf,hc0]
     exact .inr ⟨_,_,rfl,by simp,.inr ⟨by simp only[wd hlt,wh,hc0,wo,wj],rfl,by simp only[At,ats,wa,we,wb,wc]⟩⟩
    ·simp only[Z3,simprocAttr,qml,ty,e1,e3,c1 _,qaf,hc0,qav (show i≤qac by omega)]
     exact .inl ⟨i+1,_,rfl,hlt,by simp only[At,ats,wa,we,wb,wc],by simp only[];omega,by simp only[wd hlt,wh,hc0,wk]⟩
   ·have e1:¬((i:Int)<(l.length:Int)):=by omega
    simp only[Z3,simprocAttr,qml,e1,qaf]
    exact .inr ⟨_,_,rfl,by simp,.inl ⟨by simp only[];rw[wi (by omega)];rfl,rfl,by simp only[At,ats,wa,we,wb,wc]⟩⟩)
 rw[wq]at h2
 rcases h2 with⟨hr1,rfl,h2⟩|⟨hr1,rfl,h2⟩
 ·obtain⟨j,H,d,rfl⟩:=h2.elim
  clear hl
  simp only[Z3,simprocAttr,qml,hr1]
  cases h1:decide (least≤(l.length:Int))
  ·simp only[Z3,simprocAttr,qml,h1]
  ·simp only[Z3,simprocAttr,qml,h1]
 ·obtain⟨j,H,d,rfl⟩:=h2.elim
  clear hl
  simp only[Z3,simprocAttr,qml,hr1]
def qa0 (made:Bool) (e:PExpr):Bool:=match wnt made e.op with
 |none=>false
 |some w=>w.b1 e.name && w.b2 e.n && decide (w.least≤(e.cons.length:Int)) && decide ((e.cons.length:Int)≤w.most) && decide (w.kl≤(e.kids.length:Int)) && decide ((e.kids.length:Int)≤w.km)
theorem has_full (l:List Str) (s:Str) (hl:l.length≤qac):Ret C 110 [.slice (l.map fun s=>[.str s]) .full,.str s] (.bool (l.any (· ==s))):=by
 refine Ret.mk rfl rfl ?_
 rw[C_fn rfl Tryz.func110 rfl (by kernel_rfl) (m:=16) rfl];simp only[Z3,simprocAttr,Tryz.f110,qpe,qaf]
 generalize hb:qam PP cmp0 C lpC _=f;generalize hl0:lpC f _=r
 obtain⟨ex,s',rfl,h2⟩:=qc3 (α:=Nat) hl0 [4,6,7,8,9,10,11,12,13,14,15,16,17] (fun i=>[(5,.int .i64 i)]) (fun i=>i≤l.length) (fun i=>l.length-i) (fun i=>(l.drop i).any (· ==s))
  (fun ts H r ex st=>(r=false∧ex= .exit 0∧At [4,5,6,7,8,9,10,11,12,13,14,15,16,17] ts H [] st)∨(r=true∧ex= .ret∧At [5,6,7,8,9,10,11,12,13,14,15,16,17] ts H [(4,.bool true)] st)) 0 (wu _) (by simp only[At,ats,wa]) (by
   intro i j H d hi
   clear hl0;subst hb
   by_cases hlt:i<l.length
   ·have e1:((i:Int)<(l.length:Int)):=by omega
    have e3:=qg3 l i hlt
    simp only[Z3,simprocAttr,qpe,e1,e3]
    cases hc:l[i]==s
    ·simp only[Z3,simprocAttr,qav (show i≤qac by omega)]
     exact .inl ⟨i+1,_,rfl,hlt,by simp only[At,ats,wa],by simp only[];omega,by simp only[wd hlt,wga,hc,Bool.false_or]⟩
    ·simp only[Z3,simprocAttr]
     exact .inr ⟨_,_,rfl,by simp,.inr ⟨by simp only[wd hlt,wga,hc,Bool.true_or],rfl,by simp only[At,ats,wa]⟩⟩
   ·have e1:¬((i:Int)<(l.length:Int)):=by omega
    simp only[Z3,simprocAttr,qpe,e1]
    exact .inr ⟨_,_,rfl,by simp,.inl ⟨by simp only[];rw[wi (by omega)];rfl,rfl,by simp only[At,ats,wa]⟩⟩)
 rw[wq]at h2
 rcases h2 with⟨hr,rfl,h2⟩|⟨hr,rfl,h2⟩
 ·obtain⟨j,H,d,rfl⟩:=h2.elim
  clear hl0
  simp only[Z3,simprocAttr,hr]
 ·obtain⟨j,H,d,rfl⟩:=h2.elim
  clear hl0
  simp only[Z3,simprocAttr,hr]
theorem q2b (l:List Str) (s:Str):l.any (· ==s)=l.any (s== ·):=by
 congr 1;funext x;rw[waa];simp only[beq_iff_eq];exact eq_comm
theorem rshape_1 (made:Bool) (e:PExpr) (hop:e.op=1) (hs:e.Small):C 56 [.agg e.cells,.bool made] []=some (.ret (.bool (qa0 made e)) .same):=by
 have hw:qa0 made e=((e.name==[]) && decide (0≤e.n) && decide ((e.cons.length:Int)≤0) && decide ((e.kids.length:Int)≤0)):=by
  have h0:qa0 made e=((e.name==[]) && decide (0≤e.n) && decide ((0:Int)≤(e.cons.length:Int)) && decide ((e.cons.length:Int)≤0) && decide ((0:Int)≤(e.kids.length:Int)) && decide ((e.kids.length:Int)≤0)):=by
   unfold qa0;rw[hop];rfl
  exact h0.trans (by first|rfl|simp only[core])
 rw[hw];clear hw
 rw[C_fn rfl Tryz.func56 rfl (by kernel_rfl) (m:=181) rfl];simp only[Z3,simprocAttr,Tryz.f56,qag,hop]
 cases h0:(e.name==[])
 ·simp only[Z3,simprocAttr,qag,hop,h0]
 simp only[Z3,simprocAttr,qag,hop,h0]
 cases h1:decide (0≤e.n)
 ·simp only[Z3,simprocAttr,qag,hop,h0,h1]
 simp only[Z3,simprocAttr,qag,hop,h0,h1]
 cases h2:decide ((e.cons.length:Int)≤0)
 ·simp only[Z3,simprocAttr,qag,hop,h0,h1,h2]
 simp only[Z3,simprocAttr,qag,hop,h0,h1,h2]
theorem rshape_2 (made:Bool) (e:PExpr) (hop:e.op=2) (hs:e.Small):C 56 [.agg e.cells,.bool made] []=some (.ret (.bool (qa0 made e)) .same):=by
 have hw:qa0 made e=((e.name==[]) && (e.n==0||e.n==1) && decide ((e.cons.length:Int)≤0) && decide ((e.kids.length:Int)≤0)):=by
  have h0:qa0 made e=((e.name==[]) && (e.n==0||e.n==1) && decide ((0:Int)≤(e.cons.length:Int)) && decide ((e.cons.length:Int)≤0) && decide ((0:Int)≤(e.kids.length:Int)) && decide ((e.kids.length:Int)≤0)):=by
   unfold qa0;rw[hop];rfl
  exact h0.trans (by first|rfl|simp only[core])
 rw[hw];clear hw
 rw[C_fn rfl Tryz.func56 rfl (by kernel_rfl) (m:=181) rfl];simp only[Z3,simprocAttr,Tryz.f56,qag,hop]
 cases hu1:e.n==0
 rotate_left
 ·simp only[Z3,simprocAttr,qag,hop,hu1]
  cases h0:(e.name==[])
  ·simp only[Z3,simprocAttr,qag,hop,hu1,h0]
  simp only[Z3,simprocAttr,qag,hop,hu1,h0]
  cases h2:decide ((e.cons.length:Int)≤0)
  ·simp only[Z3,simprocAttr,qag,hop,hu1,h0,h2]
  simp only[Z3,simprocAttr,qag,hop,hu1,h0,h2]
 simp only[Z3,simprocAttr,qag,hop,hu1]
 cases h0:(e.name==[])
 ·simp only[Z3,simprocAttr,qag,hop,hu1,h0]
 simp only[Z3,simprocAttr,qag,hop,hu1,h0]
 cases h1:e.n==1
 ·simp only[Z3,simprocAttr,qag,hop,hu1,h0,h1]
 simp only[Z3,simprocAttr,qag,hop,hu1,h0,h1]
 cases h2:decide ((e.cons.length:Int)≤0)
 ·simp only[Z3,simprocAttr,qag,hop,hu1,h0,h1,h2]
 simp only[Z3,simprocAttr,qag,hop,hu1,h0,h1,h2]
theorem rshape_3 (made:Bool) (e:PExpr) (hop:e.op=3) (hs:e.Small):C 56 [.agg e.cells,.bool made] []=some (.ret (.bool (qa0 made e)) .same):=by
 have hw:qa0 made e=(conB made e.name && (e.n==0) && decide ((e.cons.length:Int)≤0) && decide ((e.kids.length:Int)≤0)):=by
  have h0:qa0 made e=(conB made e.name && (e.n==0) && decide ((0:Int)≤(e.cons.length:Int)) && decide ((e.cons.length:Int)≤0) && decide ((0:Int)≤(e.kids.length:Int)) && decide ((e.kids.length:Int)≤0)):=by
   unfold qa0;rw[hop];rfl
  exact h0.trans (by first|rfl|simp only[core])
 rw[hw];clear hw
 have e2:=rcon_c made e.name hs.name
 rw[C_fn rfl Tryz.func56 rfl (by kernel_rfl) (m:=181) rfl];simp only[Z3,simprocAttr,Tryz.f56,qag,hop,e2 _]
 cases h0:conB made e.name
 ·simp only[Z3,simprocAttr,qag,hop,e2 _,h0]
 simp only[Z3,simprocAttr,qag,hop,e2 _,h0]
 cases h1:(e.n==0)
 ·simp only[Z3,simprocAttr,qag,hop,e2 _,h0,h1]
 simp only[Z3,simprocAttr,qag,hop,e2 _,h0,h1]
 cases h2:decide ((e.cons.length:Int)≤0)
 ·simp only[Z3,simprocAttr,qag,hop,e2 _,h0,h1,h2]
 simp only[Z3,simprocAttr,qag,hop,e2 _,h0,h1,h2]
theorem rshape_4 (made:Bool) (e:PExpr) (hop:e.op=4) (hs:e.Small):C 56 [.agg e.cells,.bool made] []=some (.ret (.bool (qa0 made e)) .same):=by
 have hw:qa0 made e=(qbh made e.name && (e.n==0) && decide ((e.cons.length:Int)≤0) && decide ((e.kids.length:Int)≤0)):=by
  have h0:qa0 made e=(qbh made e.name && (e.n==0) && decide ((0:Int)≤(e.cons.length:Int)) && decide ((e.cons.length:Int)≤0) && decide ((0:Int)≤(e.kids.length:Int)) && decide ((e.kids.length:Int)≤0)):=by
   unfold qa0;rw[hop];rfl
  exact h0.trans (by first|rfl|simp only[core])
 rw[hw];clear hw
 have e2:=qm0 made e.name hs.name
 rw[C_fn rfl Tryz.func56 rfl (by kernel_rfl) (m:=181) rfl];simp only[Z3,simprocAttr,Tryz.f56,qag,hop,e2 _]
 cases h0:qbh made e.name
 ·simp only[Z3,simprocAttr,qag,hop,e2 _,h0]
 simp only[Z3,simprocAttr,qag,hop,e2 _,h0]
 cases h1:(e.n==0)
 ·simp only[Z3,simprocAttr,qag,hop,e2 _,h0,h1]
 simp only[Z3,simprocAttr,qag,hop,e2 _,h0,h1]
 cases h2:decide ((e.cons.length:Int)≤0)
 ·simp only[Z3,simprocAttr,qag,hop,e2 _,h0,h1,h2]
 simp only[Z3,simprocAttr,qag,hop,e2 _,h0,h1,h2]
theorem rshape_5 (made:Bool) (e:PExpr) (hop:e.op=5) (hs:e.Small):C 56 [.agg e.cells,.bool made] []=some (.ret (.bool (qa0 made e)) .same):=by
 have hw:qa0 made e=(unL.any (e.name== ·) && (e.n==0) && decide ((e.cons.length:Int)≤0) && decide ((1:Int)≤(e.kids.length:Int)) && decide ((e.kids.length:Int)≤1)):=by
  have h0:qa0 made e=(unL.any (e.name== ·) && (e.n==0) && decide ((0:Int)≤(e.cons.length:Int)) && decide ((e.cons.length:Int)≤0) && decide ((1:Int)≤(e.kids.length:Int)) && decide ((e.kids.length:Int)≤1)):=by
   unfold qa0;rw[hop];rfl
  exact h0.trans (by first|rfl|simp only[core])
 rw[hw];clear hw
 rw[C_fn rfl Tryz.func56 rfl (by kernel_rfl) (m:=181) rfl];simp only[Z3,simprocAttr,Tryz.f56,qag,hop]
 have hu:unL.any (e.name== ·)=((e.name==[110,111,116])||(e.name==[45])):=by simp[unL]
 rw[hu]
 cases hu1:e.name==[110,111,116]
 rotate_left
 ·simp only[Z3,simprocAttr,qag,hop,hu1]
  cases h1:(e.n==0)
  ·simp only[Z3,simprocAttr,qag,hop,hu1,h1]
  simp only[Z3,simprocAttr,qag,hop,hu1,h1]
  cases h2:decide ((e.cons.length:Int)≤0)
  ·simp only[Z3,simprocAttr,qag,hop,hu1,h1,h2]
  simp only[Z3,simprocAttr,qag,hop,hu1,h1,h2]
  cases h3:decide ((1:Int)≤(e.kids.length:Int))
  ·simp only[Z3,simprocAttr,qag,hop,hu1,h1,h2,h3]
  simp only[Z3,simprocAttr,qag,hop,hu1,h1,h2,h3]
 simp only[Z3,simprocAttr,qag,hop,hu1]
 cases h0:e.name==[45]
 ·simp only[Z3,simprocAttr,qag,hop,hu1,h0]
 simp only[Z3,simprocAttr,qag,hop,hu1,h0]
 cases h1:(e.n==0)
 ·simp only[Z3,simprocAttr,qag,hop,hu1,h0,h1]
 simp only[Z3,simprocAttr,qag,hop,hu1,h0,h1]
 cases h2:decide ((e.cons.length:Int)≤0)
 ·simp only[Z3,simprocAttr,qag,hop,hu1,h0,h1,h2]
 simp only[Z3,simprocAttr,qag,hop,hu1,h0,h1,h2]
 cases h3:decide ((1:Int)≤(e.kids.length:Int))
 ·simp only[Z3,simprocAttr,qag,hop,hu1,h0,h1,h2,h3]
 simp only[Z3,simprocAttr,qag,hop,hu1,h0,h1,h2,h3]
theorem rshape_6 (made:Bool) (e:PExpr) (hop:e.op=6) (hs:e.Small):C 56 [.agg e.cells,.bool made] []=some (.ret (.bool (qa0 made e)) .same):=by
 have hw:qa0 made e=(binL.any (e.name== ·) && (e.n==0) && decide ((e.cons.length:Int)≤0) && decide ((2:Int)≤(e.kids.length:Int)) && decide ((e.kids.length:Int)≤2)):=by
  have h0:qa0 made e=(binL.any (e.name== ·) && (e.n==0) && decide ((0:Int)≤(e.cons.length:Int)) && decide ((e.cons.length:Int)≤0) && decide ((2:Int)≤(e.kids.length:Int)) && decide ((e.kids.length:Int)≤2)):=by
   unfold qa0;rw[hop];rfl
  exact h0.trans (by first|rfl|simp only[core])
 rw[hw];clear hw
 have e2:=has_full binL e.name (by decide)
 rw[q2b]at e2
 generalize binL.any (fun x=>e.name==x)=bB at e2 ⊢
 simp only[binL,List.map_cons,List.map_nil]at e2
 rw[C_fn rfl Tryz.func56 rfl (by kernel_rfl) (m:=181) rfl];simp only[Z3,simprocAttr,Tryz.f56,qag,hop,e2 _]
 cases h0:bB
 ·simp only[Z3,simprocAttr,qag,hop,e2 _,h0]
 simp only[Z3,simprocAttr,qag,hop,e2 _,h0]
 cases h1:(e.n==0)
 ·simp only[Z3,simprocAttr,qag,hop,e2 _,h0,h1]
 simp only[Z3,simprocAttr,qag,hop,e2 _,h0,h1]
 cases h2:decide ((e.cons.length:Int)≤0)
 ·simp only[Z3,simprocAttr,qag,hop,e2 _,h0,h1,h2]
 simp only[Z3,simprocAttr,qag,hop,e2 _,h0,h1,h2]
 cases h3:decide ((2:Int)≤(e.kids.length:Int))
 ·simp only[Z3,simprocAttr,qag,hop,e2 _,h0,h1,h2,h3]
 simp only[Z3,simprocAttr,qag,hop,e2 _,h0,h1,h2,h3]
theorem rshape_7 (made:Bool) (e:PExpr) (hop:e.op=7) (hs:e.Small):C 56 [.agg e.cells,.bool made] []=some (.ret (.bool (qa0 made e)) .same):=by
 have hw:qa0 made e=((e.name==[]) && (e.n==0) && decide ((e.cons.length:Int)≤0) && decide ((3:Int)≤(e.kids.length:Int)) && decide ((e.kids.length:Int)≤3)):=by
  have h0:qa0 made e=((e.name==[]) && (e.n==0) && decide ((0:Int)≤(e.cons.length:Int)) && decide ((e.cons.length:Int)≤0) && decide ((3:Int)≤(e.kids.length:Int)) && decide ((e.kids.length:Int)≤3)):=by
   unfold qa0;rw[hop];rfl
  exact h0.trans (by first|rfl|simp only[core])
 rw[hw];clear hw
 rw[C_fn rfl Tryz.func56 rfl (by kernel_rfl) (m:=181) rfl];simp only[Z3,simprocAttr,Tryz.f56,qag,hop]
 cases h0:(e.name==[])
 ·simp only[Z3,simprocAttr,qag,hop,h0]
 simp only[Z3,simprocAttr,qag,hop,h0]
 cases h1:(e.n==0)
 ·simp only[Z3,simprocAttr,qag,hop,h0,h1]
 simp only[Z3,simprocAttr,qag,hop,h0,h1]
 cases h2:decide ((e.cons.length:Int)≤0)
 ·simp only[Z3,simprocAttr,qag,hop,h0,h1,h2]
 simp only[Z3,simprocAttr,qag,hop,h0,h1,h2]
 cases h3:decide ((3:Int)≤(e.kids.length:Int))
 ·simp only[Z3,simprocAttr,qag,hop,h0,h1,h2,h3]
 simp only[Z3,simprocAttr,qag,hop,h0,h1,h2,h3]
theorem rshape_8 (made:Bool) (e:PExpr) (hop:e.op=8) (hs:e.Small):C 56 [.agg e.cells,.bool made] []=some (.ret (.bool (qa0 made e)) .same):=by
 have hw:qa0 made e=((e.name==[]) && (e.n==0) && decide ((e.cons.length:Int)≤0) && decide ((2:Int)≤(e.kids.length:Int)) && decide ((e.kids.length:Int)≤2)):=by
  have h0:qa0 made e=((e.name==[]) && (e.n==0) && decide ((0:Int)≤(e.cons.length:Int)) && decide ((e.cons.length:Int)≤0) && decide ((2:Int)≤(e.kids.length:Int)) && decide ((e.kids.length:Int)≤2)):=by
   unfold qa0;rw[hop];rfl
  exact h0.trans (by first|rfl|simp only[core])
 rw[hw];clear hw
 rw[C_fn rfl Tryz.func56 rfl (by kernel_rfl) (m:=181) rfl];simp only[Z3,simprocAttr,Tryz.f56,qag,hop]
 cases h0:(e.name==[])
 ·simp only[Z3,simprocAttr,qag,hop,h0]
 simp only[Z3,simprocAttr,qag,hop,h0]
 cases h1:(e.n==0)
 ·simp only[Z3,simprocAttr,qag,hop,h0,h1]
 simp only[Z3,simprocAttr,qag,hop,h0,h1]
 cases h2:decide ((e.cons.length:Int)≤0)
 ·simp only[Z3,simprocAttr,qag,hop,h0,h1,h2]
 simp only[Z3,simprocAttr,qag,hop,h0,h1,h2]
 cases h3:decide ((2:Int)≤(e.kids.length:Int))
 ·simp only[Z3,simprocAttr,qag,hop,h0,h1,h2,h3]
 simp only[Z3,simprocAttr,qag,hop,h0,h1,h2,h3]
theorem rshape_9 (made:Bool) (e:PExpr) (hop:e.op=9) (hs:e.Small):C 56 [.agg e.cells,.bool made] []=some (.ret (.bool (qa0 made e)) .same):=by
 have hw:qa0 made e=((e.name==[]) && (e.n==0) && decide ((e.cons.length:Int)≤0) && decide ((1:Int)≤(e.kids.length:Int)) && decide ((e.kids.length:Int)≤1)):=by
  have h0:qa0 made e=((e.name==[]) && (e.n==0) && decide ((0:Int)≤(e.cons.length:Int)) && decide ((e.cons.length:Int)≤0) && decide ((1:Int)≤(e.kids.length:Int)) && decide ((e.kids.length:Int)≤1)):=by
   unfold qa0;rw[hop];rfl
  exact h0.trans (by first|rfl|simp only[core])
 rw[hw];clear hw
 rw[C_fn rfl Tryz.func56 rfl (by kernel_rfl) (m:=181) rfl];simp only[Z3,simprocAttr,Tryz.f56,qag,hop]
 cases h0:(e.name==[])
 ·simp only[Z3,simprocAttr,qag,hop,h0]
 simp only[Z3,simprocAttr,qag,hop,h0]
 cases h1:(e.n==0)
 ·simp only[Z3,simprocAttr,qag,hop,h0,h1]
 simp only[Z3,simprocAttr,qag,hop,h0,h1]
 cases h2:decide ((e.cons.length:Int)≤0)
 ·simp only[Z3,simprocAttr,qag,hop,h0,h1,h2]
 simp only[Z3,simprocAttr,qag,hop,h0,h1,h2]
 cases h3:decide ((1:Int)≤(e.kids.length:Int))
 ·simp only[Z3,simprocAttr,qag,hop,h0,h1,h2,h3]
 simp only[Z3,simprocAttr,qag,hop,h0,h1,h2,h3]
theorem rshape_10 (made:Bool) (e:PExpr) (hop:e.op=10) (hs:e.Small):C 56 [.agg e.cells,.bool made] []=some (.ret (.bool (qa0 made e)) .same):=by
 have hw:qa0 made e=((e.name==[]) && (e.n==0) && decide ((e.cons.length:Int)≤0) && decide ((2:Int)≤(e.kids.length:Int)) && decide ((e.kids.length:Int)≤2)):=by
  have h0:qa0 made e=((e.name==[]) && (e.n==0) && decide ((0:Int)≤(e.cons.length:Int)) && decide ((e.cons.length:Int)≤0) && decide ((2:Int)≤(e.kids.length:Int)) && decide ((e.kids.length:Int)≤2)):=by
   unfold qa0;rw[hop];rfl
  exact h0.trans (by first|rfl|simp only[core])
 rw[hw];clear hw
 rw[C_fn rfl Tryz.func56 rfl (by kernel_rfl) (m:=181) rfl];simp only[Z3,simprocAttr,Tryz.f56,qag,hop]
 cases h0:(e.name==[])
 ·simp only[Z3,simprocAttr,qag,hop,h0]
 simp only[Z3,simprocAttr,qag,hop,h0]
 cases h1:(e.n==0)
 ·simp only[Z3,simprocAttr,qag,hop,h0,h1]
 simp only[Z3,simprocAttr,qag,hop,h0,h1]
 cases h2:decide ((e.cons.length:Int)≤0)
 ·simp only[Z3,simprocAttr,qag,hop,h0,h1,h2]
 simp only[Z3,simprocAttr,qag,hop,h0,h1,h2]
 cases h3:decide ((2:Int)≤(e.kids.length:Int))
 ·simp only[Z3,simprocAttr,qag,hop,h0,h1,h2,h3]
 simp only[Z3,simprocAttr,qag,hop,h0,h1,h2,h3]
theorem rshape_11 (made:Bool) (e:PExpr) (hop:e.op=11) (hs:e.Small):C 56 [.agg e.cells,.bool made] []=some (.ret (.bool (qa0 made e)) .same):=by
 have hw:qa0 made e=(qbh made e.name && (e.n==0) && decide ((1:Int)≤(e.cons.length:Int)) && decide ((e.cons.length:Int)≤1) && decide ((1:Int)≤(e.kids.length:Int)) && decide ((e.kids.length:Int)≤1)):=by
  have h0:qa0 made e=(qbh made e.name && (e.n==0) && decide ((1:Int)≤(e.cons.length:Int)) && decide ((e.cons.length:Int)≤1) && decide ((1:Int)≤(e.kids.length:Int)) && decide ((e.kids.length:Int)≤1)):=by
   unfold qa0;rw[hop];rfl
  exact h0.trans (by first|rfl|simp only[core])
 rw[hw];clear hw
 have e2:=qm0 made e.name hs.name
 rw[C_fn rfl Tryz.func56 rfl (by kernel_rfl) (m:=181) rfl];simp only[Z3,simprocAttr,Tryz.f56,qag,hop,e2 _]
 cases h0:qbh made e.name
 ·simp only[Z3,simprocAttr,qag,hop,e2 _,h0]
 simp only[Z3,simprocAttr,qag,hop,e2 _,h0]
 cases h1:(e.n==0)
 ·simp only[Z3,simprocAttr,qag,hop,e2 _,h0,h1]
 simp only[Z3,simprocAttr,qag,hop,e2 _,h0,h1]
 cases h2:decide ((1:Int)≤(e.cons.length:Int))
 ·simp only[Z3,simprocAttr,qag,hop,e2 _,h0,h1,h2]
 simp only[Z3,simprocAttr,qag,hop,e2 _,h0,h1,h2]
 cases h3:decide ((e.cons.length:Int)≤1)
 ·simp only[Z3,simprocAttr,qag,hop,e2 _,h0,h1,h2,h3]
 simp only[Z3,simprocAttr,qag,hop,e2 _,h0,h1,h2,h3]
 cases h4:decide ((1:Int)≤(e.kids.length:Int))
 ·simp only[Z3,simprocAttr,qag,hop,e2 _,h0,h1,h2,h3,h4]
 simp only[Z3,simprocAttr,qag,hop,e2 _,h0,h1,h2,h3,h4]
theorem rshape_12 (made:Bool) (e:PExpr) (hop:e.op=12) (hs:e.Small):C 56 [.agg e.cells,.bool made] []=some (.ret (.bool (qa0 made e)) .same):=by
 have hw:qa0 made e=(qbh made e.name && (e.n==0) && decide ((1:Int)≤(e.cons.length:Int)) && decide ((e.cons.length:Int)≤8) && decide ((1:Int)≤(e.kids.length:Int)) && decide ((e.kids.length:Int)≤8)):=by
  have h0:qa0 made e=(qbh made e.name && (e.n==0) && decide ((1:Int)≤(e.cons.length:Int)) && decide ((e.cons.length:Int)≤8) && decide ((1:Int)≤(e.kids.length:Int)) && decide ((e.kids.length:Int)≤8)):=by
   unfold qa0;rw[hop];rfl
  exact h0.trans (by first|rfl|simp only[core])
 rw[hw];clear hw
 have e2:=qm0 made e.name hs.name
 rw[C_fn rfl Tryz.func56 rfl (by kernel_rfl) (m:=181) rfl];simp only[Z3,simprocAttr,Tryz.f56,qag,hop,e2 _]
 cases h0:qbh made e.name
 ·simp only[Z3,simprocAttr,qag,hop,e2 _,h0]
 simp only[Z3,simprocAttr,qag,hop,e2 _,h0]
 cases h1:(e.n==0)
 ·simp only[Z3,simprocAttr,qag,hop,e2 _,h0,h1]
 simp only[Z3,simprocAttr,qag,hop,e2 _,h0,h1]
 cases h2:decide ((1:Int)≤(e.cons.length:Int))
 ·simp only[Z3,simprocAttr,qag,hop,e2 _,h0,h1,h2]
 simp only[Z3,simprocAttr,qag,hop,e2 _,h0,h1,h2]
 cases h3:decide ((e.cons.length:Int)≤8)
 ·simp only[Z3,simprocAttr,qag,hop,e2 _,h0,h1,h2,h3]
 simp only[Z3,simprocAttr,qag,hop,e2 _,h0,h1,h2,h3]
 cases h4:decide ((1:Int)≤(e.kids.length:Int))
 ·simp only[Z3,simprocAttr,qag,hop,e2 _,h0,h1,h2,h3,h4]
 simp only[Z3,simprocAttr,qag,hop,e2 _,h0,h1,h2,h3,h4]
theorem rshape_13 (made:Bool) (e:PExpr) (hop:e.op=13) (hs:e.Small):C 56 [.agg e.cells,.bool made] []=some (.ret (.bool (qa0 made e)) .same):=by
 have hw:qa0 made e=(qbh made e.name && (e.n==0) && decide ((1:Int)≤(e.cons.length:Int)) && decide ((e.cons.length:Int)≤8) && decide ((1:Int)≤(e.kids.length:Int)) && decide ((e.kids.length:Int)≤8)):=by
  have h0:qa0 made e=(qbh made e.name && (e.n==0) && decide ((1:Int)≤(e.cons.length:Int)) && decide ((e.cons.length:Int)≤8) && decide ((1:Int)≤(e.kids.length:Int)) && decide ((e.kids.length:Int)≤8)):=by
   unfold qa0;rw[hop];rfl
  exact h0.trans (by first|rfl|simp only[core])
 rw[hw];clear hw
 have e2:=qm0 made e.name hs.name
 rw[C_fn rfl Tryz.func56 rfl (by kernel_rfl) (m:=181) rfl];simp only[Z3,simprocAttr,Tryz.f56,qag,hop,e2 _]
 cases h0:qbh made e.name
 ·simp only[Z3,simprocAttr,qag,hop,e2 _,h0]
 simp only[Z3,simprocAttr,qag,hop,e2 _,h0]
 cases h1:(e.n==0)
 ·simp only[Z3,simprocAttr,qag,hop,e2 _,h0,h1]
 simp only[Z3,simprocAttr,qag,hop,e2 _,h0,h1]
 cases h2:decide ((1:Int)≤(e.cons.length:Int))
 ·simp only[Z3,simprocAttr,qag,hop,e2 _,h0,h1,h2]
 simp only[Z3,simprocAttr,qag,hop,e2 _,h0,h1,h2]
 cases h3:decide ((e.cons.length:Int)≤8)
 ·simp only[Z3,simprocAttr,qag,hop,e2 _,h0,h1,h2,h3]
 simp only[Z3,simprocAttr,qag,hop,e2 _,h0,h1,h2,h3]
 cases h4:decide ((1:Int)≤(e.kids.length:Int))
 ·simp only[Z3,simprocAttr,qag,hop,e2 _,h0,h1,h2,h3,h4]
 simp only[Z3,simprocAttr,qag,hop,e2 _,h0,h1,h2,h3,h4]
theorem rshape_14 (made:Bool) (e:PExpr) (hop:e.op=14) (hs:e.Small):C 56 [.agg e.cells,.bool made] []=some (.ret (.bool (qa0 made e)) .same):=by
 have hw:qa0 made e=(qbh made e.name && (e.n==0) && decide ((e.cons.length:Int)≤6) && decide ((1:Int)≤(e.kids.length:Int)) && decide ((e.kids.length:Int)≤6)):=by
  have h0:qa0 made e=(qbh made e.name && (e.n==0) && decide ((0:Int)≤(e.cons.length:Int)) && decide ((e.cons.length:Int)≤6) && decide ((1:Int)≤(e.kids.length:Int)) && decide ((e.kids.length:Int)≤6)):=by
   unfold qa0;rw[hop];rfl
  exact h0.trans (by first|rfl|simp only[core])
 rw[hw];clear hw
 have e2:=qm0 made e.name hs.name
 rw[C_fn rfl Tryz.func56 rfl (by kernel_rfl) (m:=181) rfl];simp only[Z3,simprocAttr,Tryz.f56,qag,hop,e2 _]
 cases h0:qbh made e.name
 ·simp only[Z3,simprocAttr,qag,hop,e2 _,h0]
 simp only[Z3,simprocAttr,qag,hop,e2 _,h0]
 cases h1:(e.n==0)
 ·simp only[Z3,simprocAttr,qag,hop,e2 _,h0,h1]
 simp only[Z3,simprocAttr,qag,hop,e2 _,h0,h1]
 cases h2:decide ((e.cons.length:Int)≤6)
 ·simp only[Z3,simprocAttr,qag,hop,e2 _,h0,h1,h2]
 simp only[Z3,simprocAttr,qag,hop,e2 _,h0,h1,h2]
 cases h3:decide ((1:Int)≤(e.kids.length:Int))
 ·simp only[Z3,simprocAttr,qag,hop,e2 _,h0,h1,h2,h3]
 simp only[Z3,simprocAttr,qag,hop,e2 _,h0,h1,h2,h3]
theorem rshape_15 (made:Bool) (e:PExpr) (hop:e.op=15) (hs:e.Small):C 56 [.agg e.cells,.bool made] []=some (.ret (.bool (qa0 made e)) .same):=by
 have hw:qa0 made e=((e.name==[]) && (e.n==0) && decide ((e.cons.length:Int)≤0) && decide ((2:Int)≤(e.kids.length:Int)) && decide ((e.kids.length:Int)≤2)):=by
  have h0:qa0 made e=((e.name==[]) && (e.n==0) && decide ((0:Int)≤(e.cons.length:Int)) && decide ((e.cons.length:Int)≤0) && decide ((2:Int)≤(e.kids.length:Int)) && decide ((e.kids.length:Int)≤2)):=by
   unfold qa0;rw[hop];rfl
  exact h0.trans (by first|rfl|simp only[core])
 rw[hw];clear hw
 rw[C_fn rfl Tryz.func56 rfl (by kernel_rfl) (m:=181) rfl];simp only[Z3,simprocAttr,Tryz.f56,qag,hop]
 cases h0:(e.name==[])
 ·simp only[Z3,simprocAttr,qag,hop,h0]
 simp only[Z3,simprocAttr,qag,hop,h0]
 cases h1:(e.n==0)
 ·simp only[Z3,simprocAttr,qag,hop,h0,h1]
 simp only[Z3,simprocAttr,qag,hop,h0,h1]
 cases h2:decide ((e.cons.length:Int)≤0)
 ·simp only[Z3,simprocAttr,qag,hop,h0,h1,h2]
 simp only[Z3,simprocAttr,qag,hop,h0,h1,h2]
 cases h3:decide ((2:Int)≤(e.kids.length:Int))
 ·simp only[Z3,simprocAttr,qag,hop,h0,h1,h2,h3]
 simp only[Z3,simprocAttr,qag,hop,h0,h1,h2,h3]
end Go.Ab
namespace Go.Ab
open Go Go.Ab.Tab
theorem q3i (made:Bool) (e:PExpr) (h:∀i∈[1,2,3,4,5,6,7,8,9,10,11,12,13,14,15],e.op≠i):C 56 [.agg e.cells,.bool made] []=some (.ret (.bool (qa0 made e)) .same):=by
 have hb:∀i∈[1,2,3,4,5,6,7,8,9,10,11,12,13,14,15],(e.op==i)=false:=fun i hi=>beq_false_of_ne (h i hi)
 have hw:qa0 made e=false:=by
  have:wnt made e.op=none:=by
   simp only[wt]at h
   obtain⟨h1,h2,h3,h4,h5,h6,h7,h8,h9,h10,h11,h12,h13,h14,h15,-⟩:=h
   unfold wnt
   rw[if_neg h1,if_neg h2,if_neg h3,if_neg h4,if_neg h5,if_neg h6,if_neg h7,if_neg h8,if_neg h9,if_neg h10,if_neg h11,if_neg h12,if_neg h13,if_neg h14,if_neg h15]
  unfold qa0;rw[this]
 rw[hw]
 simp only[wt]at hb
 obtain⟨h1,h2,h3,h4,h5,h6,h7,h8,h9,h10,h11,h12,h13,h14,h15,-⟩:=hb
 rw[C_fn rfl Tryz.func56 rfl (by kernel_rfl) (m:=181) rfl];simp only[Z3,simprocAttr,Tryz.f56,qag,h1,h2,h3,h4,h5,h6,h7,h8,h9,h10,h11,h12,h13,h14,h15]
theorem rshape_c (made:Bool) (e:PExpr) (hs:e.Small):Ret C 56 [.agg e.cells,.bool made] (.bool (qa0 made e)):=by
 refine Ret.mk (by simp[qad,refs,e.norefs]) rfl ?_
 by_cases h:∀i∈[1,2,3,4,5,6,7,8,9,10,11,12,13,14,15],e.op≠i
 ·exact q3i made e h
 ·simp only[wt,wz,w8,ne_eq]at h
  rcases h with h|h|h|h|h|h|h|h|h|h|h|h|h|h|h|h
  ·exact rshape_1 made e h hs
  ·exact rshape_2 made e h hs
  ·exact rshape_3 made e h hs
  ·exact rshape_4 made e h hs
  ·exact rshape_5 made e h hs
  ·exact rshape_6 made e h hs
  ·exact rshape_7 made e h hs
  ·exact rshape_8 made e h hs
  ·exact rshape_9 made e h hs
  ·exact rshape_10 made e h hs
  ·exact rshape_11 made e h hs
  ·exact rshape_12 made e h hs
  ·exact rshape_13 made e h hs
  ·exact rshape_14 made e h hs
  ·exact rshape_15 made e h hs
  ·exact absurd (fun _ hx=>by cases hx) h
def qhz (made:Bool) (e:PExpr):Bool:=
 if e.op=11 then qc6 made e.cons 1 1 else if e.op=12∨e.op=13 then((e.cons.length:Int)==(e.kids.length:Int)) && qc6 made e.cons 1 8
 else if e.op=14 then qcr made e.cons 0 6 else if e.op=15 then qc0 e.kids else true
theorem qff (a b:Int):(!decide (a<b))=decide (b≤a):=by
 by_cases h:a<b
 ·simp[h]
 ·simp[h];omega
theorem qgd (l:List Str):(decide ((l.length:Int)≤0) && !l.any fun _=>true)=decide ((l.length:Int)≤0):=by
 cases l with
 |nil=>rfl
 |cons x r=>
  have e1:decide (((r.length+1:Nat):Int)≤0)=false:=decide_eq_false (by omega)
  simp only[List.length_cons,e1,wo]
theorem alg_c:∀n z a b c d f:Bool,(n && z && (a && b && c) && d && f)=(n && z && a && b && d && f && (a && b && c)):=by decide
theorem alg_d:∀n z b c d f:Bool,(n && z && (b && c) && d && f)=(n && z && b && d && f && (b && c)):=by decide
theorem alg_m:∀n z a b c d f g:Bool,(n && z && (a && b && c) && d && f && g)=(n && z && a && b && d && f && (g && (a && b && c))):=by decide
theorem q3j (made:Bool) (e:PExpr):qar made e=(qa0 made e && qhz made e && e.kids.all fun k=>qar made k):=by
 have hk:(!e.kids.any fun k=> !qar made k)=e.kids.all fun k=>qar made k:=by
  rw[ww];simp only[wg]
 rw[qdk,hk]
 congr 1
 unfold qa0 qhz
 by_cases h:∀i∈[1,2,3,4,5,6,7,8,9,10,11,12,13,14,15],e.op≠i
 ·have:wnt made e.op=none:=by
   simp only[wt]at h
   obtain⟨h1,h2,h3,h4,h5,h6,h7,h8,h9,h10,h11,h12,h13,h14,h15,-⟩:=h
   unfold wnt
   rw[if_neg h1,if_neg h2,if_neg h3,if_neg h4,if_neg h5,if_neg h6,if_neg h7,if_neg h8,if_neg h9,if_neg h10,if_neg h11,if_neg h12,if_neg h13,if_neg h14,if_neg h15]
  rw[this];rfl
 ·simp only[wt,wz,w8,ne_eq]at h
  have hz:∀(l:List Str),decide ((0:Int)≤(l.length:Int))=true:=fun l=>decide_eq_true (w6 _)
  have hy:∀(l:List PExpr),decide ((0:Int)≤(l.length:Int))=true:=fun l=>decide_eq_true (w6 _)
  rcases h with h|h|h|h|h|h|h|h|h|h|h|h|h|h|h|h
  ·have hw:wnt made e.op=some ⟨none,some fun n=>decide (0≤n),fun _=>false,0,0,0,0,false⟩:=by rw[h];rfl
   rw[hw,h];simp only[Wnt.head,Wnt.b1,Wnt.b2,Wnt.b3,qff,qc6,qcr,hz,hy,core,bne,wg,Int.reduceEq,Int.reduceBEq,or_false,false_or,or_self,or_true,true_or,qgd]
  ·have hw:wnt made e.op=some ⟨none,some fun n=>n==0||n==1,fun _=>false,0,0,0,0,false⟩:=by rw[h];rfl
   rw[hw,h];simp only[Wnt.head,Wnt.b1,Wnt.b2,Wnt.b3,qff,qc6,qcr,hz,hy,core,bne,wg,Int.reduceEq,Int.reduceBEq,or_false,false_or,or_self,or_true,true_or,qgd]
  ·have hw:wnt made e.op=some ⟨some (conB made),none,fun _=>false,0,0,0,0,false⟩:=by rw[h];rfl
   rw[hw,h];simp only[Wnt.head,Wnt.b1,Wnt.b2,Wnt.b3,qff,qc6,qcr,hz,hy,core,bne,wg,Int.reduceEq,Int.reduceBEq,or_false,false_or,or_self,or_true,true_or,qgd]
  ·have hw:wnt made e.op=some ⟨some (qbh made),none,fun _=>false,0,0,0,0,false⟩:=by rw[h];rfl
   rw[hw,h];simp only[Wnt.head,Wnt.b1,Wnt.b2,Wnt.b3,qff,qc6,qcr,hz,hy,core,bne,wg,Int.reduceEq,Int.reduceBEq,or_false,false_or,or_self,or_true,true_or,qgd]
  ·have hw:wnt made e.op=some ⟨some fun s=>unL.any (s== ·),none,fun _=>false,0,0,1,1,false⟩:=by rw[h];rfl
   rw[hw,h];simp only[Wnt.head,Wnt.b1,Wnt.b2,Wnt.b3,qff,qc6,qcr,hz,hy,core,bne,wg,Int.reduceEq,Int.reduceBEq,or_false,false_or,or_self,or_true,true_or,qgd]
  ·have hw:wnt made e.op=some ⟨some fun s=>binL.any (s== ·),none,fun _=>false,0,0,2,2,false⟩:=by rw[h];rfl
   rw[hw,h];simp only[Wnt.head,Wnt.b1,Wnt.b2,Wnt.b3,qff,qc6,qcr,hz,hy,core,bne,wg,Int.reduceEq,Int.reduceBEq,or_false,false_or,or_self,or_true,true_or,qgd]
  ·have hw:wnt made e.op=some ⟨none,none,fun _=>false,0,0,3,3,false⟩:=by rw[h];rfl
   rw[hw,h];simp only[Wnt.head,Wnt.b1,Wnt.b2,Wnt.b3,qff,qc6,qcr,hz,hy,core,bne,wg,Int.reduceEq,Int.reduceBEq,or_false,false_or,or_self,or_true,true_or,qgd]
  ·have hw:wnt made e.op=some ⟨none,none,fun _=>false,0,0,2,2,false⟩:=by rw[h];rfl
   rw[hw,h];simp only[Wnt.head,Wnt.b1,Wnt.b2,Wnt.b3,qff,qc6,qcr,hz,hy,core,bne,wg,Int.reduceEq,Int.reduceBEq,or_false,false_or,or_self,or_true,true_or,qgd]
  ·have hw:wnt made e.op=some ⟨none,none,fun _=>false,0,0,1,1,false⟩:=by rw[h];rfl
   rw[hw,h];simp only[Wnt.head,Wnt.b1,Wnt.b2,Wnt.b3,qff,qc6,qcr,hz,hy,core,bne,wg,Int.reduceEq,Int.reduceBEq,or_false,false_or,or_self,or_true,true_or,qgd]
  ·have hw:wnt made e.op=some ⟨none,none,fun _=>false,0,0,2,2,false⟩:=by rw[h];rfl
   rw[hw,h];simp only[Wnt.head,Wnt.b1,Wnt.b2,Wnt.b3,qff,qc6,qcr,hz,hy,core,bne,wg,Int.reduceEq,Int.reduceBEq,or_false,false_or,or_self,or_true,true_or,qgd]
  ·have hw:wnt made e.op=some ⟨some (qbh made),none,conB made,1,1,1,1,false⟩:=by rw[h];rfl
   rw[hw,h];simp only[Wnt.head,Wnt.b1,Wnt.b2,Wnt.b3,qff,qc6,qcr,hz,hy,core,bne,wg,Int.reduceEq,Int.reduceBEq,or_false,false_or,or_self,or_true,true_or]
   exact alg_c _ _ _ _ _ _ _
  ·have hw:wnt made e.op=some ⟨some (qbh made),none,conB made,1,8,1,8,true⟩:=by rw[h];rfl
   rw[hw,h];simp only[Wnt.head,Wnt.b1,Wnt.b2,Wnt.b3,qff,qc6,qcr,hz,hy,core,bne,wg,Int.reduceEq,Int.reduceBEq,or_false,false_or,or_self,or_true,true_or]
   exact alg_m _ _ _ _ _ _ _ _
  ·have hw:wnt made e.op=some ⟨some (qbh made),none,conB made,1,8,1,8,true⟩:=by rw[h];rfl
   rw[hw,h];simp only[Wnt.head,Wnt.b1,Wnt.b2,Wnt.b3,qff,qc6,qcr,hz,hy,core,bne,wg,Int.reduceEq,Int.reduceBEq,or_false,false_or,or_self,or_true,true_or]
   exact alg_m _ _ _ _ _ _ _ _
  ·have hw:wnt made e.op=some ⟨some (qbh made),none,qbh made,0,6,1,6,false⟩:=by rw[h];rfl
   rw[hw,h];simp only[Wnt.head,Wnt.b1,Wnt.b2,Wnt.b3,qff,qc6,qcr,hz,hy,core,bne,wg,Int.reduceEq,Int.reduceBEq,or_false,false_or,or_self,or_true,true_or]
   exact alg_d _ _ _ _ _ _
  ·have hw:wnt made e.op=some ⟨none,none,fun _=>false,0,0,2,2,false⟩:=by rw[h];rfl
   rw[hw,h];simp only[Wnt.head,Wnt.b1,Wnt.b2,Wnt.b3,qff,qc6,qcr,hz,hy,core,bne,wg,Int.reduceEq,Int.reduceBEq,or_false,false_or,or_self,or_true,true_or,qgd]
  ·exact absurd (fun _ hx=>by cases hx) h
theorem q5f (made:Bool) (e:PExpr) (hs:e.Small) (ih:∀k∈e.kids,Ret C 24 [.agg k.cells,.bool made] (.bool (qar made k))):Ret C 24 [.agg e.cells,.bool made] (.bool (qar made e)):=by
 refine Ret.mk (by simp[qad,refs,e.norefs]) rfl ?_
 rw[q3j]
 have e1:=rshape_c made e hs
 have hl1:=hs.kids.1
 rw[C_fn rfl Tryz.func24 rfl (by kernel_rfl) (m:=64) rfl];simp only[Z3,simprocAttr,Tryz.f24,qbg,e1 _]
 cases h1:qa0 made e
 ·simp only[Z3,simprocAttr,qbg,h1]
 simp only[Z3,simprocAttr,qbg,h1]
 by_cases h11:e.op=11
 ·have hx:qhz made e=qc6 made e.cons 1 1:=by unfold qhz;rw[h11];rfl
  rw[hx]
  have e2:=rcons_c made e.cons hs.cons 1 1
  simp only[Z3,simprocAttr,qbg,h11,e2 _]
  cases h2:qc6 made e.cons 1 1
  ·simp only[Z3,simprocAttr,qbg,h2]
  simp only[Z3,simprocAttr,qbg,h2]
  generalize hb:qam PP cmp0 C lpC _=f;generalize hl:lpC f _=r
  obtain⟨ex,s',rfl,h2⟩:=qc3 (α:=Nat) hl [4,51,52,53,54,55,56,57,58,59,60,61,62,63,64,65] (fun i=>[(5,.int .i64 i)]) (fun i=>i≤e.kids.length) (fun i=>e.kids.length-i) (fun i=>(e.kids.drop i).all fun x=>qar made x)
   (qfv 1 [4,5,51,52,53,54,55,56,57,58,59,60,61,62,63,64,65] [5,51,52,53,54,55,56,57,58,59,60,61,62,63,64,65] 4) 0 (wu _) (by simp only[At,ats,wa,we,wb,wc]) (by
    intro i j H d hi
    clear hl;subst hb
    by_cases hlt:i<e.kids.length
    ·have e1:((i:Int)<(e.kids.length:Int)):=by omega
     have e3:(e.kids.map PExpr.cells)[i]? =some (PExpr.cells e.kids[i]):=by simp[hlt]
     have hm:=wm hlt
     have c1:=ih e.kids[i] hm
     simp only[Z3,simprocAttr,qbg,ty,e1,e3,c1 _]
     cases hc0:qar made e.kids[i]
     ·simp only[Z3,simprocAttr,qbg,ty,e1,e3,c1 _,hc0]
      exact .inr ⟨_,_,rfl,by simp,.inr ⟨by simp only[wd hlt,wh,hc0,wo,wj],rfl,by simp only[At,ats,wa,we,wb,wc]⟩⟩
     ·simp only[Z3,simprocAttr,qbg,ty,e1,e3,c1 _,hc0,qav (show i≤qac by omega)]
      exact .inl ⟨i+1,_,rfl,hlt,by simp only[At,ats,wa,we,wb,wc],by simp only[];omega,by simp only[wd hlt,wh,hc0,wk]⟩
    ·have e1:¬((i:Int)<(e.kids.length:Int)):=by omega
     simp only[Z3,simprocAttr,qbg,e1]
     exact .inr ⟨_,_,rfl,by simp,.inl ⟨by simp only[];rw[wi (by omega)];rfl,rfl,by simp only[At,ats,wa,we,wb,wc]⟩⟩)
  rw[wq]at h2
  rcases h2 with⟨hr1,rfl,h2⟩|⟨hr1,rfl,h2⟩
  ·obtain⟨j,H,d,rfl⟩:=h2.elim
   clear hl
   simp only[Z3,simprocAttr,qbg,hr1]
  ·obtain⟨j,H,d,rfl⟩:=h2.elim
   clear hl
   simp only[Z3,simprocAttr,qbg,hr1]
 by_cases h1213:e.op=12∨e.op=13
 ·have hx:qhz made e=(((e.cons.length:Int)==(e.kids.length:Int)) && qc6 made e.cons 1 8):=by
   unfold qhz;rw[if_neg h11,if_pos h1213]
  rw[hx]
  have e2:=rcons_c made e.cons hs.cons 1 8
  rcases h1213 with h12|h12
  ·simp only[Z3,simprocAttr,qbg,h12,bne]
   cases h2:((e.cons.length:Int)==(e.kids.length:Int))
   ·simp only[Z3,simprocAttr,qbg,h2]
   simp only[Z3,simprocAttr,qbg,h2,e2 _]
   cases h3:qc6 made e.cons 1 8
   ·simp only[Z3,simprocAttr,qbg,h3]
   simp only[Z3,simprocAttr,qbg,h3]
   generalize hb:qam PP cmp0 C lpC _=f;generalize hl:lpC f _=r
   obtain⟨ex,s',rfl,h2⟩:=qc3 (α:=Nat) hl [4,51,52,53,54,55,56,57,58,59,60,61,62,63,64,65] (fun i=>[(5,.int .i64 i)]) (fun i=>i≤e.kids.length) (fun i=>e.kids.length-i) (fun i=>(e.kids.drop i).all fun x=>qar made x)
    (qfv 1 [4,5,51,52,53,54,55,56,57,58,59,60,61,62,63,64,65] [5,51,52,53,54,55,56,57,58,59,60,61,62,63,64,65] 4) 0 (wu _) (by simp only[At,ats,wa,we,wb,wc]) (by
     intro i j H d hi
     clear hl;subst hb
     by_cases hlt:i<e.kids.length
     ·have e1:((i:Int)<(e.kids.length:Int)):=by omega
      have e3:(e.kids.map PExpr.cells)[i]? =some (PExpr.cells e.kids[i]):=by simp[hlt]
      have hm:=wm hlt
      have c1:=ih e.kids[i] hm
      simp only[Z3,simprocAttr,qbg,ty,e1,e3,c1 _]
      cases hc0:qar made e.kids[i]
      ·simp only[Z3,simprocAttr,qbg,ty,e1,e3,c1 _,hc0]
       exact .inr ⟨_,_,rfl,by simp,.inr ⟨by simp only[wd hlt,wh,hc0,wo,wj],rfl,by simp only[At,ats,wa,we,wb,wc]⟩⟩
      ·simp only[Z3,simprocAttr,qbg,ty,e1,e3,c1 _,hc0,qav (show i≤qac by omega)]
       exact .inl ⟨i+1,_,rfl,hlt,by simp only[At,ats,wa,we,wb,wc],by simp only[];omega,by simp only[wd hlt,wh,hc0,wk]⟩
     ·have e1:¬((i:Int)<(e.kids.length:Int)):=by omega
      simp only[Z3,simprocAttr,qbg,e1]
      exact .inr ⟨_,_,rfl,by simp,.inl ⟨by simp only[];rw[wi (by omega)];rfl,rfl,by simp only[At,ats,wa,we,wb,wc]⟩⟩)
   rw[wq]at h2
   rcases h2 with⟨hr1,rfl,h2⟩|⟨hr1,rfl,h2⟩
   ·obtain⟨j,H,d,rfl⟩:=h2.elim
    clear hl
    simp only[Z3,simprocAttr,qbg,hr1]
   ·obtain⟨j,H,d,rfl⟩:=h2.elim
    clear hl
    simp only[Z3,simprocAttr,qbg,hr1]
  ·simp only[Z3,simprocAttr,qbg,h12,bne]
   cases h2:((e.cons.length:Int)==(e.kids.length:Int))
   ·simp only[Z3,simprocAttr,qbg,h2]
   simp only[Z3,simprocAttr,qbg,h2,e2 _]
   cases h3:qc6 made e.cons 1 8
   ·simp only[Z3,simprocAttr,qbg,h3]
   simp only[Z3,simprocAttr,qbg,h3]
   generalize hb:qam PP cmp0 C lpC _=f;generalize hl:lpC f _=r
   obtain⟨ex,s',rfl,h2⟩:=qc3 (α:=Nat) hl [4,51,52,53,54,55,56,57,58,59,60,61,62,63,64,65] (fun i=>[(5,.int .i64 i)]) (fun i=>i≤e.kids.length) (fun i=>e.kids.length-i) (fun i=>(e.kids.drop i).all fun x=>qar made x)
    (qfv 1 [4,5,51,52,53,54,55,56,57,58,59,60,61,62,63,64,65] [5,51,52,53,54,55,56,57,58,59,60,61,62,63,64,65] 4) 0 (wu _) (by simp only[At,ats,wa,we,wb,wc]) (by
     intro i j H d hi
     clear hl;subst hb
     by_cases hlt:i<e.kids.length
     ·have e1:((i:Int)<(e.kids.length:Int)):=by omega
      have e3:(e.kids.map PExpr.cells)[i]? =some (PExpr.cells e.kids[i]):=by simp[hlt]
      have hm:=wm hlt
      have c1:=ih e.kids[i] hm
      simp only[Z3,simprocAttr,qbg,ty,e1,e3,c1 _]
      cases hc0:qar made e.kids[i]
      ·simp only[Z3,simprocAttr,qbg,ty,e1,e3,c1 _,hc0]
       exact .inr ⟨_,_,rfl,by simp,.inr ⟨by simp only[wd hlt,wh,hc0,wo,wj],rfl,by simp only[At,ats,wa,we,wb,wc]⟩⟩
      ·simp only[Z3,simprocAttr,qbg,ty,e1,e3,c1 _,hc0,qav (show i≤qac by omega)]
       exact .inl ⟨i+1,_,rfl,hlt,by simp only[At,ats,wa,we,wb,wc],by simp only[];omega,by simp only[wd hlt,wh,hc0,wk]⟩
     ·have e1:¬((i:Int)<(e.kids.length:Int)):=by omega
      simp only[Z3,simprocAttr,qbg,e1]
      exact .inr ⟨_,_,rfl,by simp,.inl ⟨by simp only[];rw[wi (by omega)];rfl,rfl,by simp only[At,ats,wa,we,wb,wc]⟩⟩)
   rw[wq]at h2
   rcases h2 with⟨hr1,rfl,h2⟩|⟨hr1,rfl,h2⟩
   ·obtain⟨j,H,d,rfl⟩:=h2.elim
    clear hl
    simp only[Z3,simprocAttr,qbg,hr1]
   ·obtain⟨j,H,d,rfl⟩:=h2.elim
    clear hl
    simp only[Z3,simprocAttr,qbg,hr1]
 by_cases h14:e.op=14
 ·have hx:qhz made e=qcr made e.cons 0 6:=by unfold qhz;rw[h14];rfl
  rw[hx]
  have e2:=rnames_c made e.cons hs.cons 0 6
  simp only[Z3,simprocAttr,qbg,h14,e2 _]
  cases h2:qcr made e.cons 0 6
  ·simp only[Z3,simprocAttr,qbg,h2]
  simp only[Z3,simprocAttr,qbg,h2]
  generalize hb:qam PP cmp0 C lpC _=f;generalize hl:lpC f _=r
  obtain⟨ex,s',rfl,h2⟩:=qc3 (α:=Nat) hl [4,51,52,53,54,55,56,57,58,59,60,61,62,63,64,65] (fun i=>[(5,.int .i64 i)]) (fun i=>i≤e.kids.length) (fun i=>e.kids.length-i) (fun i=>(e.kids.drop i).all fun x=>qar made x)
   (qfv 1 [4,5,51,52,53,54,55,56,57,58,59,60,61,62,63,64,65] [5,51,52,53,54,55,56,57,58,59,60,61,62,63,64,65] 4) 0 (wu _) (by simp only[At,ats,wa,we,wb,wc]) (by
    intro i j H d hi
    clear hl;subst hb
    by_cases hlt:i<e.kids.length
    ·have e1:((i:Int)<(e.kids.length:Int)):=by omega
     have e3:(e.kids.map PExpr.cells)[i]? =some (PExpr.cells e.kids[i]):=by simp[hlt]
     have hm:=wm hlt
     have c1:=ih e.kids[i] hm
     simp only[Z3,simprocAttr,qbg,ty,e1,e3,c1 _]
     cases hc0:qar made e.kids[i]
     ·simp only[Z3,simprocAttr,qbg,ty,e1,e3,c1 _,hc0]
      exact .inr ⟨_,_,rfl,by simp,.inr ⟨by simp only[wd hlt,wh,hc0,wo,wj],rfl,by simp only[At,ats,wa,we,wb,wc]⟩⟩
     ·simp only[Z3,simprocAttr,qbg,ty,e1,e3,c1 _,hc0,qav (show i≤qac by omega)]
      exact .inl ⟨i+1,_,rfl,hlt,by simp only[At,ats,wa,we,wb,wc],by simp only[];omega,by simp only[wd hlt,wh,hc0,wk]⟩
    ·have e1:¬((i:Int)<(e.kids.length:Int)):=by omega
     simp only[Z3,simprocAttr,qbg,e1]
     exact .inr ⟨_,_,rfl,by simp,.inl ⟨by simp only[];rw[wi (by omega)];rfl,rfl,by simp only[At,ats,wa,we,wb,wc]⟩⟩)
  rw[wq]at h2
  rcases h2 with⟨hr1,rfl,h2⟩|⟨hr1,rfl,h2⟩
  ·obtain⟨j,H,d,rfl⟩:=h2.elim
   clear hl
   simp only[Z3,simprocAttr,qbg,hr1]
  ·obtain⟨j,H,d,rfl⟩:=h2.elim
   clear hl
   simp only[Z3,simprocAttr,qbg,hr1]
 by_cases h15:e.op=15
 ·have hx:qhz made e=qc0 e.kids:=by unfold qhz;rw[h15];rfl
  rw[hx]
  have hk2:∃k0 r,e.kids=k0::r:=by
   have:decide ((2:Int)≤(e.kids.length:Int))=true:=by
    unfold qa0 at h1;rw[h15]at h1
    have h1':(Wnt.b1 ⟨none,none,fun _=>false,0,0,2,2,false⟩ e.name && Wnt.b2 ⟨none,none,fun _=>false,0,0,2,2,false⟩ e.n && decide ((0:Int)≤(e.cons.length:Int)) && decide ((e.cons.length:Int)≤0) && decide ((2:Int)≤(e.kids.length:Int)) && decide ((e.kids.length:Int)≤2))=true:=h1
    simp only[Bool.and_eq_true]at h1'
    exact h1'.1.2
   cases hk:e.kids with
   |nil=>rw[hk]at this;simp at this
   |cons k0 r=>exact⟨k0,r,rfl⟩
  obtain⟨k0,r,hk2⟩:=hk2
  have hg:(e.kids.map PExpr.cells)[0]? =some k0.cells:=by rw[hk2];rfl
  have hf:qc0 e.kids=(k0.op==14):=by rw[hk2];rfl
  rw[hf]
  simp only[Z3,simprocAttr,qbg,h15,hg,bne]
  cases h2:k0.op==14
  ·simp only[Z3,simprocAttr,qbg,h2]
  simp only[Z3,simprocAttr,qbg,h2]
  generalize hb:qam PP cmp0 C lpC _=f;generalize hl:lpC f _=r
  obtain⟨ex,s',rfl,h2⟩:=qc3 (α:=Nat) hl [4,51,52,53,54,55,56,57,58,59,60,61,62,63,64,65] (fun i=>[(5,.int .i64 i)]) (fun i=>i≤e.kids.length) (fun i=>e.kids.length-i) (fun i=>(e.kids.drop i).all fun x=>qar made x)
   (qfv 1 [4,5,51,52,53,54,55,56,57,58,59,60,61,62,63,64,65] [5,51,52,53,54,55,56,57,58,59,60,61,62,63,64,65] 4) 0 (wu _) (by simp only[At,ats,wa,we,wb,wc]) (by
    intro i j H d hi
    clear hl;subst hb
    by_cases hlt:i<e.kids.length
    ·have e1:((i:Int)<(e.kids.length:Int)):=by omega
     have e3:(e.kids.map PExpr.cells)[i]? =some (PExpr.cells e.kids[i]):=by simp[hlt]
     have hm:=wm hlt
     have c1:=ih e.kids[i] hm
     simp only[Z3,simprocAttr,qbg,ty,e1,e3,c1 _]
     cases hc0:qar made e.kids[i]
     ·simp only[Z3,simprocAttr,qbg,ty,e1,e3,c1 _,hc0]
      exact .inr ⟨_,_,rfl,by simp,.inr ⟨by simp only[wd hlt,wh,hc0,wo,wj],rfl,by simp only[At,ats,wa,we,wb,wc]⟩⟩
     ·simp only[Z3,simprocAttr,qbg,ty,e1,e3,c1 _,hc0,qav (show i≤qac by omega)]
      exact .inl ⟨i+1,_,rfl,hlt,by simp only[At,ats,wa,we,wb,wc],by simp only[];omega,by simp only[wd hlt,wh,hc0,wk]⟩
    ·have e1:¬((i:Int)<(e.kids.length:Int)):=by omega
     simp only[Z3,simprocAttr,qbg,e1]
     exact .inr ⟨_,_,rfl,by simp,.inl ⟨by simp only[];rw[wi (by omega)];rfl,rfl,by simp only[At,ats,wa,we,wb,wc]⟩⟩)
  rw[wq]at h2
  rcases h2 with⟨hr1,rfl,h2⟩|⟨hr1,rfl,h2⟩
  ·obtain⟨j,H,d,rfl⟩:=h2.elim
   clear hl
   simp only[Z3,simprocAttr,qbg,hr1]
  ·obtain⟨j,H,d,rfl⟩:=h2.elim
   clear hl
   simp only[Z3,simprocAttr,qbg,hr1]
 have hx:qhz made e=true:=by unfold qhz;rw[if_neg h11,if_neg h1213,if_neg h14,if_neg h15]
 rw[hx]
 have b11:=beq_false_of_ne h11
 have b12:=beq_false_of_ne (fun h=>h1213 (.inl h))
 have b13:=beq_false_of_ne (fun h=>h1213 (.inr h))
 have b14:=beq_false_of_ne h14
 have b15:=beq_false_of_ne h15
 simp only[Z3,simprocAttr,qbg,b11,b12,b13,b14,b15]
 generalize hb:qam PP cmp0 C lpC _=f;generalize hl:lpC f _=r
 obtain⟨ex,s',rfl,h2⟩:=qc3 (α:=Nat) hl [4,51,52,53,54,55,56,57,58,59,60,61,62,63,64,65] (fun i=>[(5,.int .i64 i)]) (fun i=>i≤e.kids.length) (fun i=>e.kids.length-i) (fun i=>(e.kids.drop i).all fun x=>qar made x)
  (qfv 1 [4,5,51,52,53,54,55,56,57,58,59,60,61,62,63,64,65] [5,51,52,53,54,55,56,57,58,59,60,61,62,63,64,65] 4) 0 (wu _) (by simp only[At,ats,wa,we,wb,wc]) (by
   intro i j H d hi
   clear hl;subst hb
   by_cases hlt:i<e.kids.length
   ·have e1:((i:Int)<(e.kids.length:Int)):=by omega
    have e3:(e.kids.map PExpr.cells)[i]? =some (PExpr.cells e.kids[i]):=by simp[hlt]
    have hm:=wm hlt
    have c1:=ih e.kids[i] hm
    simp only[Z3,simprocAttr,qbg,ty,e1,e3,c1 _]
    cases hc0:qar made e.kids[i]
    ·simp only[Z3,simprocAttr,qbg,ty,e1,e3,c1 _,hc0]
     exact .inr ⟨_,_,rfl,by simp,.inr ⟨by simp only[wd hlt,wh,hc0,wo,wj],rfl,by simp only[At,ats,wa,we,wb,wc]⟩⟩
    ·simp only[Z3,simprocAttr,qbg,ty,e1,e3,c1 _,hc0,qav (show i≤qac by omega)]
     exact .inl ⟨i+1,_,rfl,hlt,by simp only[At,ats,wa,we,wb,wc],by simp only[];omega,by simp only[wd hlt,wh,hc0,wk]⟩
   ·have e1:¬((i:Int)<(e.kids.length:Int)):=by omega
    simp only[Z3,simprocAttr,qbg,e1]
    exact .inr ⟨_,_,rfl,by simp,.inl ⟨by simp only[];rw[wi (by omega)];rfl,rfl,by simp only[At,ats,wa,we,wb,wc]⟩⟩)
 rw[wq]at h2
 rcases h2 with⟨hr1,rfl,h2⟩|⟨hr1,rfl,h2⟩
 ·obtain⟨j,H,d,rfl⟩:=h2.elim
  clear hl
  simp only[Z3,simprocAttr,qbg,hr1]
 ·obtain⟨j,H,d,rfl⟩:=h2.elim
  clear hl
  simp only[Z3,simprocAttr,qbg,hr1]
theorem qyh (made:Bool) (e:PExpr):e.Small→Ret C 24 [.agg e.cells,.bool made] (.bool (qar made e)):=by
 induction e using PExpr.induct with
 |h op name n cons kids ih=>
  intro hs
  exact q5f made _ hs (fun k hk=>ih k hk (hs.kids.2 k hk))
end Go.Ab
