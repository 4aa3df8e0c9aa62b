/- Which expressions may be, op for op. -/
import Derived.Test.YtngklkmeknmloaaGreatDoorAbBox
import Derived.Test.YtngklkmeknmloaaGreatDoorAbScanr
import Derived.Test.YtngklkmeknmloaaGreatDoorAbRead
set_option linter.unusedSimpArgs false
set_option linter.unusedVariables false
set_option maxRecDepth 100000
set_option maxHeartbeats 4000000
open Go.Proofs
open BitVec renaming ofInt→wa
open List renaming drop_eq_getElem_cons→wb,append_nil→wd,map_nil→we,not_mem_nil→wf,length_cons→wg,mem_cons→wi,map_cons→wj,all_nil→wo
open Int renaming natCast_zero→wc
open Bool renaming eq_iff_iff→wh,true_and→wk,and_self→wm
open Nat renaming zero_le→wq
namespace Go.Ab
theorem qky {call:Call} {H:qab} {g:FuncId} {b b':Nat} {cs ws:List AVal} {v:AVal} (args:List AVal) (ha:qad args=[b]) (hb:H[b]? =some (.box cs)) (hcs:qad cs=[b']) (hne:(b'==b)=false) (hb':H[b']? =some (.box ws)) (hws:qad ws=[])
 (e:call g (renL (fun _=>0) args) [.box (renL (fun _=>1) cs),.box ws]=some (.ret v .same)) (hv:refs v=[]):qai call H g args=some (.ret v .same):=by
 have hbb:(b==b')=false:=by
  rw[beq_eq_false_iff_ne]at hne ⊢
  exact fun h=>hne h.symm
 refine qos [b,b'] ?_ ?_ ?_ hv
 ·rw[ha]
  simp[qbv,hb,hcs,hb',hws,beq_eq_false_iff_ne.1 hne]
 ·unfold qc2
  simp[ha,hb,hb',qdq,hcs,hws]
 ·have h1:renL (fun x=>List.idxOf x [b,b']) args=renL (fun _=>0) args:=by
   refine qgl args (fun x hx=> ?_)
   rw[ha]at hx
   simp only[wi,wf,or_false]at hx
   subst hx;simp
  rw[h1]
  have h2:subH H [b,b']=[.box (renL (fun _=>1) cs),.box ws]:=by
   simp only[subH,wj,we,List.getD_eq_getElem?_getD,hb,hb',Option.getD_some,renB]
   rw[qco ws (by rw[hws];simp)]
   have:renL (fun x=>List.idxOf x [b,b']) cs=renL (fun _=>1) cs:=by
    refine qgl cs (fun x hx=> ?_)
    rw[hcs]at hx
    simp only[wi,wf,or_false]at hx
    subst hx
    simp[List.idxOf_cons,hbb]
   rw[this]
  rw[h2];exact e
end Go.Ab
namespace Go.Ab
open Go Go.Ab.Tab
theorem qym (l:List Str) (hl:l.length≤qac) (g h:FuncId) (ws:List AVal) (hws:qad ws=[]) (p:Str→Bool) (hp:∀x∈l,∀H,qai C (.box [.func h [] [.ptr 1 0]]:: .box ws::H) g [.str x,.ptr 0 0]=some (.ret (.bool (p x)) .same)):
 C 203 [.slice (l.map (fun s=>[AVal.str s])) .free,.func g [] [.ptr 0 0]] [.box [.func h [] [.ptr 1 0]],.box ws]=some (.ret (.bool (l.any p)) .same):=by
 have e1:∀H,qai C (.box [.func h [] [.ptr 1 0]]:: .box ws::H) 241 [.slice (l.map (fun s=>[AVal.str s])) .free,.func g [] [.ptr 0 0]]=some (.ret (.int .i64 (idxP p l 0)) .same):=fun H=>
  qky (b:=0) (b':=1) _ rfl rfl rfl rfl rfl hws (qu7 l hl g [] [.ptr 0 0] [.box [.func h [] [.ptr 1 0]],.box ws] p hp) rfl
 rw[C_fn rfl Tryz.func203 rfl (by kernel_rfl) (m:=7) rfl];simp only[Z3,simprocAttr,Tryz.f203,fx_203,e1,qjz,qa0 2 _ _ [] (by simp)]
theorem all1_h (h:FuncId) (ws:List AVal) (hws:qad ws=[]) (s:Str) (b:Bool) (hp:C h [.str s,.ptr 0 0] [.box ws]=some (.ret (.bool b) .same)):
 C 204 [.str s,.ptr 0 0] [.box [.func h [] [.ptr 1 0]],.box ws]=some (.ret (.bool (!b)) .same):=by
 have e1:∀H,qai C (.box [.func h [] [.ptr 1 0]]:: .box ws::H) h [.str s,.ptr 1 0]=some (.ret (.bool b) .same):=fun H=>qbd (b:=1) _ rfl rfl hws hp rfl
 rw[C_fn rfl Tryz.func204 rfl (by kernel_rfl) (m:=6) rfl];simp only[Z3,simprocAttr,Tryz.f204,fx_204,e1,qa0 2 _ _ [] (by simp)]
theorem all_h (l:List Str) (hl:l.length≤qac) (least most:Int) (h:FuncId) (ws:List AVal) (hws:qad ws=[]) (p:Str→Bool) (hp:∀x∈l,C h [.str x,.ptr 0 0] [.box ws]=some (.ret (.bool (p x)) .same)):
 C 138 [qag l,.int .i64 least,.int .i64 most,.func h [] [.ptr 0 0]] [.box ws]=some (.ret (.bool (decide (least≤l.length) && decide ((l.length:Int)≤most) && !l.any fun s=> !p s)) .same):=by
 have e1:=qym l hl 204 h ws hws (fun s=> !p s) (fun x hx H=>
  qky (b:=0) (b':=1) _ rfl rfl rfl rfl rfl hws (all1_h h ws hws x (p x) (hp x hx)) rfl)
 have e2:∀H,qai C (.box ws:: .box [.func h [] [.ptr 0 0]]::H) 203 [.slice (l.map fun s=>[.str s]) .free,.func 204 [] [.ptr 1 0]]=some (.ret (.bool (l.any fun s=> !p s)) .same):=fun H=>
  qky (b:=1) (b':=0) _ rfl rfl rfl rfl rfl hws e1 rfl
 rw[C_fn rfl Tryz.func138 rfl (by kernel_rfl) (m:=21) rfl];simp only[Z3,simprocAttr,Tryz.f138,qji,qag]
 cases h1:decide (least≤(l.length:Int))
 ·simp only[Z3,simprocAttr,qji,h1,qa0 1 _ _ [] (by simp)]
 cases h2:decide ((l.length:Int)≤most)
 ·simp only[Z3,simprocAttr,qji,h1,h2,qa0 1 _ _ [] (by simp)]
 ·simp only[Z3,simprocAttr,qji,h1,h2,e2,qa0 1 _ _ [] (by simp)]
theorem q1r (l:List Str) (w:List AVal) (ol:List Str) (hw:w=(oneW 1 1).cells∧ol=unL∨w=(oneW 1 2).cells∧ol=binL):
 C 138 [qag l,.int .i64 0,.int .i64 0,.func 283 [] [.ptr 0 0]] [.box w,.box [.slice (ol.map fun s=>[.str s]) .full]]=some (.ret (.bool (decide ((l.length:Int)≤0))) .same):=by
 cases l with
 |nil=>rcases hw with⟨rfl,rfl⟩|⟨rfl,rfl⟩<;>exact C_of (n:=6) (by kernel_rfl)
 |cons x r=>
  have e1:decide (((r.length+1:Nat):Int)≤0)=false:=decide_eq_false (by omega)
  have e2:decide ((0:Int)≤((r.length+1:Nat):Int))=true:=decide_eq_true (by omega)
  rw[C_fn rfl Tryz.func138 rfl (by kernel_rfl) (m:=21) rfl];simp only[Z3,simprocAttr,Tryz.f138,qji,qag,e1,e2,qa0 2 _ _ [] (by simp)]
theorem qul (name n:AVal) (least most kids many:Int) (am:Bool) (g:FuncId) (fst:List AVal) (s:Str) (b:Bool) (hr:Ret C g (fst++[.str s]) (.bool b)) (hn:name.cells=[name]∧n.cells=[n]):
 C 283 [.str s,.ptr 0 0] [.box (qcz name n (.func g fst []) least most kids many am).cells]=some (.ret (.bool b) .same):=by
 rw[C_fn rfl Tryz.func283 rfl (by kernel_rfl) (m:=6) rfl];simp only[Z3,simprocAttr,Tryz.f283,fx_283,wd,hr _,qa0 1 _ _ [] (by simp)]
end Go.Ab
namespace Go.Ab
open Go Go.Ab.Tab
theorem q5d (l:List Str) (s:Str) (hl:l.length≤qac):Ret C 260 [.slice (l.map fun s=>[.str s]) .full,.str s] (.int .i64 (idxN s l 0)):=by
 refine Ret.mk rfl rfl ?_
 rw[C_fn rfl Tryz.func260 rfl (by kernel_rfl) (m:=17) rfl];simp only[Z3,simprocAttr,Tryz.f260,qpy,qag]
 generalize hb:qam PP cmp0 C lpC _=f;generalize hl0:lpC f _=r
 obtain⟨ex,s',rfl,h2⟩:=qeg (α:=Nat) hl0 [4,5,9,10,11,12,13,14,15,16,17,18] (fun i=>[(8,.int .i64 i)]) (fun i=>i≤l.length) (fun i=>l.length-i) (fun i=>idxN s (l.drop i) i)
  (fun ts H r ex st=>(ex= .exit 0∧r= -1∧At [4,5,8,9,10,11,12,13,14,15,16,17,18] ts H [] st)∨(ex= .ret∧At [5,8,9,10,11,12,13,14,15,16,17,18] ts H [(4,.int .i64 r)] st)) 0 (wq _) (by simp only[At,ats,wc]) (by
   intro i j H d hi
   clear hl0;subst hb
   by_cases hlt:i<l.length
   ·have e1:((i:Int)<(l.length:Int)):=by omega
    have e3:=qir l i hlt
    simp only[Z3,simprocAttr,qpy,e1,e3]
    cases hc:s==l[i]
    ·simp only[Z3,simprocAttr,qaz (show i≤qac by omega)]
     exact .inl ⟨i+1,_,rfl,hlt,by simp only[At,ats,wc],by simp only[];omega,by simp only[wb hlt,idxN,hc];rfl⟩
    ·simp only[Z3,simprocAttr]
     exact .inr ⟨_,_,rfl,by simp,.inr ⟨rfl,by simp only[wb hlt,idxN,hc,if_true,At,ats]⟩⟩
   ·have e1:¬((i:Int)<(l.length:Int)):=by omega
    simp only[Z3,simprocAttr,qpy,e1]
    exact .inr ⟨_,_,rfl,by simp,.inl ⟨rfl,by simp only[];rw[List.drop_eq_nil_of_le (by omega)];rfl,by simp only[At,ats,wc]⟩⟩)
 rw[List.drop_zero]at h2
 rcases h2 with⟨rfl,hr,h2⟩|⟨rfl,h2⟩
 ·obtain⟨j,H,d,rfl⟩:=h2.elim
  clear hl0
  simp only[Z3,simprocAttr,hr]
 ·obtain⟨j,H,d,rfl⟩:=h2.elim
  clear hl0
  simp only[Z3,simprocAttr]
theorem q0e (l:List Str) (s:Str) (hl:l.length≤qac):Ret C 230 [.slice (l.map fun s=>[.str s]) .full,.str s] (.bool (l.any (s== ·))):=by
 refine Ret.mk rfl rfl ?_
 have e1:=q5d l s hl
 rw[C_fn rfl Tryz.func230 rfl (by kernel_rfl) (m:=7) rfl];simp only[Z3,simprocAttr,Tryz.f230,fx_230,e1 _,qvq]
theorem one1_c (l:List Str) (hl:l.length≤qac) (s:Str):C 301 [.str s,.ptr 0 0] [.box [.slice (l.map fun s=>[.str s]) .full]]=some (.ret (.bool (l.any (s== ·))) .same):=by
 have e1:=q0e l s hl
 rw[C_fn rfl Tryz.func301 rfl (by kernel_rfl) (m:=5) rfl];simp only[Z3,simprocAttr,Tryz.f301,fx_301,e1 _,qa0 1 _ _ [] (by simp)]
structure Wnt where
 nm:Option (Str→Bool)
 nn:Option (Int→Bool)
 cn:Str→Bool
 least:Int
 most:Int
 kl:Int
 km:Int
 am:Bool
def wnt (made:Bool) (op:Int):Option Wnt:=
 if op=1 then some ⟨none,some fun n=>decide (0≤n),fun _=>false,0,0,0,0,false⟩
 else if op=2 then some ⟨none,some fun n=>n==0||n==1,fun _=>false,0,0,0,0,false⟩
 else if op=3 then some ⟨some (conB made),none,fun _=>false,0,0,0,0,false⟩
 else if op=4 then some ⟨some (qde made),none,fun _=>false,0,0,0,0,false⟩
 else if op=5 then some ⟨some fun s=>unL.any (s== ·),none,fun _=>false,0,0,1,1,false⟩
 else if op=6 then some ⟨some fun s=>binL.any (s== ·),none,fun _=>false,0,0,2,2,false⟩
 else if op=7 then some ⟨none,none,fun _=>false,0,0,3,3,false⟩
 else if op=8 then some ⟨none,none,fun _=>false,0,0,2,2,false⟩
 else if op=9 then some ⟨none,none,fun _=>false,0,0,1,1,false⟩
 else if op=10 then some ⟨none,none,fun _=>false,0,0,2,2,false⟩
 else if op=11 then some ⟨some (qde made),none,conB made,1,1,1,1,false⟩
 else if op=12 then some ⟨some (qde made),none,conB made,1,8,1,8,true⟩
 else if op=13 then some ⟨some (qde made),none,conB made,1,8,1,8,true⟩
 else if op=14 then some ⟨some (qde made),none,qde made,0,6,1,6,false⟩
 else if op=15 then some ⟨none,none,fun _=>false,0,0,2,2,false⟩
 else none
def Wnt.b1 (w:Wnt) (name:Str):Bool:=match w.nm with|none=>name==[]|some p=>p name
def Wnt.b2 (w:Wnt) (n:Int):Bool:=match w.nn with|none=>n==0|some p=>p n
def Wnt.b3 (w:Wnt) (cons:List Str):Bool:=decide (w.least≤(cons.length:Int)) && decide ((cons.length:Int)≤w.most) && !cons.any fun s=> !w.cn s
def qee:List PExpr→Bool
 |[]=>false
 |k::_=>k.op==14
def Wnt.head (w:Wnt) (op:Int) (name:Str) (n:Int) (cons:List Str) (kids:List PExpr):Bool:=
 w.b1 name && w.b2 n && w.b3 cons && !decide ((kids.length:Int)<w.kl) && !decide (w.km<(kids.length:Int)) && !(w.am && ((cons.length:Int) !=(kids.length:Int))) && !(op==15 && !qee kids)
mutual
def qa1 (made:Bool):PExpr→Bool
 | .mk op name n cons kids=>(match wnt made op with|none=>false|some w=>w.head op name n cons kids) && !qxq made kids
def qxq (made:Bool):List PExpr→Bool
 |[]=>false
 |k::r=> !qa1 made k||qxq made r
end
theorem q5e (made:Bool) (l:List PExpr):qxq made l=l.any fun k=> !qa1 made k:=by
 induction l with
 |nil=>rfl
 |cons k r ih=>simp only[qxq,ih,List.any_cons]
theorem qea (made:Bool) (e:PExpr):qa1 made e=((match wnt made e.op with|none=>false|some w=>w.head e.op e.name e.n e.cons e.kids) && !(e.kids.any fun k=> !qa1 made k)):=by
 cases e;simp only[qa1,q5e,PExpr.op,PExpr.name,PExpr.n,PExpr.cons,PExpr.kids]
theorem ofn_1 (z:Int):Ret C 293 [.int .i64 z] (.bool (decide (0≤z))):=by
 refine Ret.mk rfl rfl ?_
 rw[C_fn rfl Tryz.func293 rfl (by kernel_rfl) (m:=4) rfl];simp only[Z3,simprocAttr,Tryz.f293,fx_293]
theorem or_one (z:Int) (hz:qbp z):(IntKind.wrap .i64 ((wa 64 z|||wa 64 1).toNat:Int)==1)=(z==0||z==1):=by
 obtain⟨h1,h2⟩:=hz
 have e1:(wa 64 1).toNat=1:=rfl
 have e2:((wa 64 z).toNat:Int)=z % 18446744073709551616:=by
  rw[BitVec.toNat_ofInt]
  omega
 rw[BitVec.toNat_or,e1]
 generalize(wa 64 z).toNat=x at*
 have hx:x<18446744073709551616:=by omega
 have hb:x|||1<18446744073709551616:=Nat.or_lt_two_pow (n:=64) hx (by decide)
 have hl:x≤x|||1:=Nat.left_le_or
 have hw:(IntKind.wrap .i64 ((x|||1:Nat):Int)==1)=decide (x|||1=1):=by
  have:IntKind.wrap .i64 ((x|||1:Nat):Int)=1↔x|||1=1:=by
   generalize x|||1=m at*
   have hb2:IntKind.bits .i64=64:=rfl
   have hs:IntKind.signed .i64=true:=rfl
   simp only[IntKind.wrap,hb2,hs,wk,decide_eq_true_eq]
   have:((2:Int) ^ 64)=18446744073709551616:=by decide
   have:((2:Int) ^ (64-1))=9223372036854775808:=by decide
   split<;>omega
  rw[wh]
  simp only[beq_iff_eq,decide_eq_true_eq]
  exact this
 rw[hw]
 have hm:x|||1=1↔x≤1:=by
  constructor
  ·intro h;omega
  ·intro h
   rcases Nat.le_one_iff_eq_zero_or_eq_one.1 h with rfl|rfl<;>rfl
 rw[wh]
 simp only[decide_eq_true_eq,hm,Bool.or_eq_true,beq_iff_eq]
 omega
theorem ofn_2 (z:Int) (hz:qbp z):Ret C 294 [.int .i64 z] (.bool (z==0||z==1)):=by
 refine Ret.mk rfl rfl ?_
 rw[C_fn rfl Tryz.func294 rfl (by kernel_rfl) (m:=5) rfl];simp only[Z3,simprocAttr,Tryz.f294,fx_294]
 exact congrArg (fun b=>some (CR.ret (.bool b) .same)) (or_one z hz)
theorem qht (l:List Str) (hl:l.length≤qac) (h:FuncId) (ws:List AVal) (hws:qad ws=[]):
 C 138 [qag l,.int .i64 0,.int .i64 0,.func h [] [.ptr 0 0]] [.box ws]=some (.ret (.bool (decide ((0:Int)≤l.length) && decide ((l.length:Int)≤0) && !l.any fun _=> !false)) .same):=by
 cases l with
 |nil=>exact all_h [] (wq _) 0 0 h ws hws (fun _=>false) (fun x hx=>by cases hx)
 |cons x r=>
  have e1:decide (((r.length+1:Nat):Int)≤0)=false:=decide_eq_false (by omega)
  have e2:decide ((0:Int)≤((r.length+1:Nat):Int))=true:=decide_eq_true (by omega)
  rw[C_fn rfl Tryz.func138 rfl (by kernel_rfl) (m:=21) rfl];simp only[Z3,simprocAttr,Tryz.f138,qji,qag,e1,e2,qa0 1 _ _ [] (by simp)]
theorem q1s (n:Nat) (b c:Bool):(decide ((0:Int)≤n) && b && c)=(b && c):=by
 rw[decide_eq_true (Int.natCast_nonneg n),wk]
theorem qdw (l:List Str):(decide ((0:Int)≤l.length) && decide ((l.length:Int)≤0) && !l.any fun _=> !false)=decide ((l.length:Int)≤0):=by
 cases l with
 |nil=>rfl
 |cons x r=>
  have e1:decide (((r.length+1:Nat):Int)≤0)=false:=decide_eq_false (by omega)
  simp only[wg,e1,Bool.and_false,Bool.false_and]
theorem expr_1 (made:Bool) (e:PExpr) (hop:e.op=1) (hs:e.Small) (_hr:qbp e.n)
 (hk:∀H,qai C (.box [.bool made]::H) 284 [.slice (e.kids.map PExpr.cells) .free,.func 285 [] [.ptr 0 0]]=some (.ret (.bool (e.kids.any fun x=> !qa1 made x)) .same)):
 C 269 [qan made,.agg e.cells] []=some (.ret (.bool (qa1 made e)) .same):=by
 have hw:qa1 made e=((e.name==[]) && decide (0≤e.n) && (decide ((0:Int)≤(e.cons.length:Int)) && decide ((e.cons.length:Int)≤0) && !e.cons.any fun _=> !false) && !decide ((e.kids.length:Int)<0) && !decide ((0:Int)<(e.kids.length:Int)) && !(false && !((e.cons.length:Int)==(e.kids.length:Int))) && !(false && !qee e.kids) && !(e.kids.any fun k=> !qa1 made k)):=by
  rw[qea,hop];rfl
 rw[hw];clear hw
 have e1:=of_1 made
 unfold OfR qan at e1
 have e4:=ofn_1 e.n
 have e3:∀H,qai C (.box [.bool made]:: .box e.cells:: .box [.nilf,(.func 293 [] []),.nilf,.int .i64 0,.int .i64 0,.int .i64 0,.int .i64 0,.bool false]::H) 138 [qag e.cons,.int .i64 0,.int .i64 0,.func 283 [] [.ptr 2 0]]=some (.ret (.bool (decide ((e.cons.length:Int)≤0))) .same):=fun H=>
  qdw e.cons▸qbd (b:=2) _ rfl rfl rfl (qht e.cons hs.cons.1 _ (qcz .nilf (.func 293 [] []) .nilf 0 0 0 0 false).cells rfl) rfl
 rw[qdw]
 rw[C_fn rfl Tryz.func269 rfl (by kernel_rfl) (m:=107) rfl];simp only[Z3,simprocAttr,Tryz.f269,qak,qan,hop,hk,bne,e1 _,e4 _,e3]
 cases h1:(e.name==[])
 ·simp only[Z3,simprocAttr,qak,hop,hk,bne,e1 _,e4 _,e3,h1]
 cases h2:decide (0≤e.n)
 ·simp only[Z3,simprocAttr,qak,hop,hk,bne,e1 _,e4 _,e3,h1,h2]
 cases h3:decide ((e.cons.length:Int)≤0)
 ·simp only[Z3,simprocAttr,qak,hop,hk,bne,e1 _,e4 _,e3,h1,h2,h3]
 cases h4:decide ((e.kids.length:Int)<0)
 rotate_left
 ·simp only[Z3,simprocAttr,qak,hop,hk,bne,e1 _,e4 _,e3,h1,h2,h3,h4]
 cases h5:decide ((0:Int)<(e.kids.length:Int))
 rotate_left
 ·simp only[Z3,simprocAttr,qak,hop,hk,bne,e1 _,e4 _,e3,h1,h2,h3,h4,h5]
 simp only[Z3,simprocAttr,qak,hop,hk,bne,e1 _,e4 _,e3,h1,h2,h3,h4,h5]
theorem expr_2 (made:Bool) (e:PExpr) (hop:e.op=2) (hs:e.Small) (hr:qbp e.n)
 (hk:∀H,qai C (.box [.bool made]::H) 284 [.slice (e.kids.map PExpr.cells) .free,.func 285 [] [.ptr 0 0]]=some (.ret (.bool (e.kids.any fun x=> !qa1 made x)) .same)):
 C 269 [qan made,.agg e.cells] []=some (.ret (.bool (qa1 made e)) .same):=by
 have hw:qa1 made e=((e.name==[]) && (e.n==0||e.n==1) && (decide ((0:Int)≤(e.cons.length:Int)) && decide ((e.cons.length:Int)≤0) && !e.cons.any fun _=> !false) && !decide ((e.kids.length:Int)<0) && !decide ((0:Int)<(e.kids.length:Int)) && !(false && !((e.cons.length:Int)==(e.kids.length:Int))) && !(false && !qee e.kids) && !(e.kids.any fun k=> !qa1 made k)):=by
  rw[qea,hop];rfl
 rw[hw];clear hw
 have e1:=of_2 made
 unfold OfR qan at e1
 have e4:=ofn_2 e.n hr
 have e3:∀H,qai C (.box [.bool made]:: .box e.cells:: .box [.nilf,(.func 294 [] []),.nilf,.int .i64 0,.int .i64 0,.int .i64 0,.int .i64 0,.bool false]::H) 138 [qag e.cons,.int .i64 0,.int .i64 0,.func 283 [] [.ptr 2 0]]=some (.ret (.bool (decide ((e.cons.length:Int)≤0))) .same):=fun H=>
  qdw e.cons▸qbd (b:=2) _ rfl rfl rfl (qht e.cons hs.cons.1 _ (qcz .nilf (.func 294 [] []) .nilf 0 0 0 0 false).cells rfl) rfl
 rw[qdw]
 rw[C_fn rfl Tryz.func269 rfl (by kernel_rfl) (m:=107) rfl];simp only[Z3,simprocAttr,Tryz.f269,qak,qan,hop,hk,bne,e1 _,e4 _,e3]
 cases h1:(e.name==[])
 ·simp only[Z3,simprocAttr,qak,hop,hk,bne,e1 _,e4 _,e3,h1]
 cases h2:(e.n==0||e.n==1)
 ·simp only[Z3,simprocAttr,qak,hop,hk,bne,e1 _,e4 _,e3,h1,h2]
 cases h3:decide ((e.cons.length:Int)≤0)
 ·simp only[Z3,simprocAttr,qak,hop,hk,bne,e1 _,e4 _,e3,h1,h2,h3]
 cases h4:decide ((e.kids.length:Int)<0)
 rotate_left
 ·simp only[Z3,simprocAttr,qak,hop,hk,bne,e1 _,e4 _,e3,h1,h2,h3,h4]
 cases h5:decide ((0:Int)<(e.kids.length:Int))
 rotate_left
 ·simp only[Z3,simprocAttr,qak,hop,hk,bne,e1 _,e4 _,e3,h1,h2,h3,h4,h5]
 simp only[Z3,simprocAttr,qak,hop,hk,bne,e1 _,e4 _,e3,h1,h2,h3,h4,h5]
theorem expr_3 (made:Bool) (e:PExpr) (hop:e.op=3) (hs:e.Small) (_hr:qbp e.n)
 (hk:∀H,qai C (.box [.bool made]::H) 284 [.slice (e.kids.map PExpr.cells) .free,.func 285 [] [.ptr 0 0]]=some (.ret (.bool (e.kids.any fun x=> !qa1 made x)) .same)):
 C 269 [qan made,.agg e.cells] []=some (.ret (.bool (qa1 made e)) .same):=by
 have hw:qa1 made e=(conB made e.name && (e.n==0) && (decide ((0:Int)≤(e.cons.length:Int)) && decide ((e.cons.length:Int)≤0) && !e.cons.any fun _=> !false) && !decide ((e.kids.length:Int)<0) && !decide ((0:Int)<(e.kids.length:Int)) && !(false && !((e.cons.length:Int)==(e.kids.length:Int))) && !(false && !qee e.kids) && !(e.kids.any fun k=> !qa1 made k)):=by
  rw[qea,hop];rfl
 rw[hw];clear hw
 have e1:=of_3 made
 unfold OfR qan at e1
 have e2:=qrk made e.name hs.name
 unfold qan at e2
 have e3:∀H,qai C (.box [.bool made]:: .box e.cells:: .box [(fCon made),.nilf,.nilf,.int .i64 0,.int .i64 0,.int .i64 0,.int .i64 0,.bool false]::H) 138 [qag e.cons,.int .i64 0,.int .i64 0,.func 283 [] [.ptr 2 0]]=some (.ret (.bool (decide ((e.cons.length:Int)≤0))) .same):=fun H=>
  qdw e.cons▸qbd (b:=2) _ rfl rfl rfl (qht e.cons hs.cons.1 _ (qcz (fCon made) .nilf .nilf 0 0 0 0 false).cells rfl) rfl
 unfold qan at e3
 rw[qdw]
 rw[C_fn rfl Tryz.func269 rfl (by kernel_rfl) (m:=107) rfl];simp only[Z3,simprocAttr,Tryz.f269,qak,qan,hop,hk,bne,e1 _,e2 _,e3]
 cases h1:conB made e.name
 ·simp only[Z3,simprocAttr,qak,hop,hk,bne,e1 _,e2 _,e3,h1]
 cases h2:(e.n==0)
 ·simp only[Z3,simprocAttr,qak,hop,hk,bne,e1 _,e2 _,e3,h1,h2]
 cases h3:decide ((e.cons.length:Int)≤0)
 ·simp only[Z3,simprocAttr,qak,hop,hk,bne,e1 _,e2 _,e3,h1,h2,h3]
 cases h4:decide ((e.kids.length:Int)<0)
 rotate_left
 ·simp only[Z3,simprocAttr,qak,hop,hk,bne,e1 _,e2 _,e3,h1,h2,h3,h4]
 cases h5:decide ((0:Int)<(e.kids.length:Int))
 rotate_left
 ·simp only[Z3,simprocAttr,qak,hop,hk,bne,e1 _,e2 _,e3,h1,h2,h3,h4,h5]
 simp only[Z3,simprocAttr,qak,hop,hk,bne,e1 _,e2 _,e3,h1,h2,h3,h4,h5]
theorem expr_4 (made:Bool) (e:PExpr) (hop:e.op=4) (hs:e.Small) (_hr:qbp e.n)
 (hk:∀H,qai C (.box [.bool made]::H) 284 [.slice (e.kids.map PExpr.cells) .free,.func 285 [] [.ptr 0 0]]=some (.ret (.bool (e.kids.any fun x=> !qa1 made x)) .same)):
 C 269 [qan made,.agg e.cells] []=some (.ret (.bool (qa1 made e)) .same):=by
 have hw:qa1 made e=(qde made e.name && (e.n==0) && (decide ((0:Int)≤(e.cons.length:Int)) && decide ((e.cons.length:Int)≤0) && !e.cons.any fun _=> !false) && !decide ((e.kids.length:Int)<0) && !decide ((0:Int)<(e.kids.length:Int)) && !(false && !((e.cons.length:Int)==(e.kids.length:Int))) && !(false && !qee e.kids) && !(e.kids.any fun k=> !qa1 made k)):=by
  rw[qea,hop];rfl
 rw[hw];clear hw
 have e1:=of_4 made
 unfold OfR qan at e1
 have e2:=qkx made e.name hs.name
 unfold qan at e2
 have e3:∀H,qai C (.box [.bool made]:: .box e.cells:: .box [(qgj made),.nilf,.nilf,.int .i64 0,.int .i64 0,.int .i64 0,.int .i64 0,.bool false]::H) 138 [qag e.cons,.int .i64 0,.int .i64 0,.func 283 [] [.ptr 2 0]]=some (.ret (.bool (decide ((e.cons.length:Int)≤0))) .same):=fun H=>
  qdw e.cons▸qbd (b:=2) _ rfl rfl rfl (qht e.cons hs.cons.1 _ (qcz (qgj made) .nilf .nilf 0 0 0 0 false).cells rfl) rfl
 unfold qan at e3
 rw[qdw]
 rw[C_fn rfl Tryz.func269 rfl (by kernel_rfl) (m:=107) rfl];simp only[Z3,simprocAttr,Tryz.f269,qak,qan,hop,hk,bne,e1 _,e2 _,e3]
 cases h1:qde made e.name
 ·simp only[Z3,simprocAttr,qak,hop,hk,bne,e1 _,e2 _,e3,h1]
 cases h2:(e.n==0)
 ·simp only[Z3,simprocAttr,qak,hop,hk,bne,e1 _,e2 _,e3,h1,h2]
 cases h3:decide ((e.cons.length:Int)≤0)
 ·simp only[Z3,simprocAttr,qak,hop,hk,bne,e1 _,e2 _,e3,h1,h2,h3]
 cases h4:decide ((e.kids.length:Int)<0)
 rotate_left
 ·simp only[Z3,simprocAttr,qak,hop,hk,bne,e1 _,e2 _,e3,h1,h2,h3,h4]
 cases h5:decide ((0:Int)<(e.kids.length:Int))
 rotate_left
 ·simp only[Z3,simprocAttr,qak,hop,hk,bne,e1 _,e2 _,e3,h1,h2,h3,h4,h5]
 simp only[Z3,simprocAttr,qak,hop,hk,bne,e1 _,e2 _,e3,h1,h2,h3,h4,h5]
theorem expr_5 (made:Bool) (e:PExpr) (hop:e.op=5) (hs:e.Small) (_hr:qbp e.n)
 (hk:∀H,qai C (.box [.bool made]::H) 284 [.slice (e.kids.map PExpr.cells) .free,.func 285 [] [.ptr 0 0]]=some (.ret (.bool (e.kids.any fun x=> !qa1 made x)) .same)):
 C 269 [qan made,.agg e.cells] []=some (.ret (.bool (qa1 made e)) .same):=by
 have hw:qa1 made e=(unL.any (e.name== ·) && (e.n==0) && (decide ((0:Int)≤(e.cons.length:Int)) && decide ((e.cons.length:Int)≤0) && !e.cons.any fun _=> !false) && !decide ((e.kids.length:Int)<1) && !decide ((1:Int)<(e.kids.length:Int)) && !(false && !((e.cons.length:Int)==(e.kids.length:Int))) && !(false && !qee e.kids) && !(e.kids.any fun k=> !qa1 made k)):=by
  rw[qea,hop];rfl
 rw[hw];clear hw
 have e1:qai C [.box [.bool made],.box e.cells] 282 [.agg [.bool made],.int .i64 5]=some (.ret (.tuple [oneW 4 1,.bool true]) (.heap [.box [.bool made],.box e.cells,.box [.bool made],.box [.func 301 [] [.ptr 4 0],.nilf,.nilf,.int .i64 0,.int .i64 0,.int .i64 1,.int .i64 1,.bool false],.box [.slice (unL.map fun s=>[.str s]) .full]] [])):=by
  have e0:=of_5 made
  unfold qan at e0
  unfold qai
  simp only[qq4,qzd,qsu,qfd,qsv,wd,qbv,qc2,wo,wm,if_true,renL,ren,subH,we,e0]
  rfl
 have e2:∀H,qai C (.box [.bool made]:: .box e.cells:: .box [.bool made]:: .box [.func 301 [] [.ptr 4 0],.nilf,.nilf,.int .i64 0,.int .i64 0,.int .i64 1,.int .i64 1,.bool false]:: .box [.slice (unL.map fun s=>[.str s]) .full]::H) 301 [.str e.name,.ptr 4 0]=some (.ret (.bool (unL.any (e.name== ·))) .same):=fun H=>
  qbd (b:=4) _ rfl rfl rfl (one1_c unL (by decide) e.name) rfl
 have e3:∀H,qai C (.box [.bool made]:: .box e.cells:: .box [.bool made]:: .box [.func 301 [] [.ptr 4 0],.nilf,.nilf,.int .i64 0,.int .i64 0,.int .i64 1,.int .i64 1,.bool false]:: .box [.slice (unL.map fun s=>[.str s]) .full]:: .box [.func 301 [] [.ptr 4 0],.nilf,.nilf,.int .i64 0,.int .i64 0,.int .i64 1,.int .i64 1,.bool false]::H) 138 [qag e.cons,.int .i64 0,.int .i64 0,.func 283 [] [.ptr 5 0]]=some (.ret (.bool (decide ((e.cons.length:Int)≤0))) .same):=fun H=>
  qky (b:=5) (b':=4) _ rfl rfl rfl rfl rfl rfl (q1r e.cons (oneW 1 1).cells unL (by simp)) rfl
 rw[qdw]
 rw[C_fn rfl Tryz.func269 rfl (by kernel_rfl) (m:=107) rfl];simp only[Z3,simprocAttr,Tryz.f269,qak,qan,hop,hk,bne,e1,e2,e3]
 cases h1:unL.any (e.name== ·)
 ·simp only[Z3,simprocAttr,qak,hop,hk,bne,e1,e2,e3,h1]
 cases h2:(e.n==0)
 ·simp only[Z3,simprocAttr,qak,hop,hk,bne,e1,e2,e3,h1,h2]
 cases h3:decide ((e.cons.length:Int)≤0)
 ·simp only[Z3,simprocAttr,qak,hop,hk,bne,e1,e2,e3,h1,h2,h3]
 cases h4:decide ((e.kids.length:Int)<1)
 rotate_left
 ·simp only[Z3,simprocAttr,qak,hop,hk,bne,e1,e2,e3,h1,h2,h3,h4]
 cases h5:decide ((1:Int)<(e.kids.length:Int))
 rotate_left
 ·simp only[Z3,simprocAttr,qak,hop,hk,bne,e1,e2,e3,h1,h2,h3,h4,h5]
 simp only[Z3,simprocAttr,qak,hop,hk,bne,e1,e2,e3,h1,h2,h3,h4,h5]
theorem expr_6 (made:Bool) (e:PExpr) (hop:e.op=6) (hs:e.Small) (_hr:qbp e.n)
 (hk:∀H,qai C (.box [.bool made]::H) 284 [.slice (e.kids.map PExpr.cells) .free,.func 285 [] [.ptr 0 0]]=some (.ret (.bool (e.kids.any fun x=> !qa1 made x)) .same)):
 C 269 [qan made,.agg e.cells] []=some (.ret (.bool (qa1 made e)) .same):=by
 have hw:qa1 made e=(binL.any (e.name== ·) && (e.n==0) && (decide ((0:Int)≤(e.cons.length:Int)) && decide ((e.cons.length:Int)≤0) && !e.cons.any fun _=> !false) && !decide ((e.kids.length:Int)<2) && !decide ((2:Int)<(e.kids.length:Int)) && !(false && !((e.cons.length:Int)==(e.kids.length:Int))) && !(false && !qee e.kids) && !(e.kids.any fun k=> !qa1 made k)):=by
  rw[qea,hop];rfl
 rw[hw];clear hw
 have e1:qai C [.box [.bool made],.box e.cells] 282 [.agg [.bool made],.int .i64 6]=some (.ret (.tuple [oneW 4 2,.bool true]) (.heap [.box [.bool made],.box e.cells,.box [.bool made],.box [.func 301 [] [.ptr 4 0],.nilf,.nilf,.int .i64 0,.int .i64 0,.int .i64 2,.int .i64 2,.bool false],.box [.slice (binL.map fun s=>[.str s]) .full]] [])):=by
  have e0:=of_6 made
  unfold qan at e0
  unfold qai
  simp only[qq4,qzd,qsu,qfd,qsv,wd,qbv,qc2,wo,wm,if_true,renL,ren,subH,we,e0]
  rfl
 have e2:∀H,qai C (.box [.bool made]:: .box e.cells:: .box [.bool made]:: .box [.func 301 [] [.ptr 4 0],.nilf,.nilf,.int .i64 0,.int .i64 0,.int .i64 2,.int .i64 2,.bool false]:: .box [.slice (binL.map fun s=>[.str s]) .full]::H) 301 [.str e.name,.ptr 4 0]=some (.ret (.bool (binL.any (e.name== ·))) .same):=fun H=>
  qbd (b:=4) _ rfl rfl rfl (one1_c binL (by decide) e.name) rfl
 have e3:∀H,qai C (.box [.bool made]:: .box e.cells:: .box [.bool made]:: .box [.func 301 [] [.ptr 4 0],.nilf,.nilf,.int .i64 0,.int .i64 0,.int .i64 2,.int .i64 2,.bool false]:: .box [.slice (binL.map fun s=>[.str s]) .full]:: .box [.func 301 [] [.ptr 4 0],.nilf,.nilf,.int .i64 0,.int .i64 0,.int .i64 2,.int .i64 2,.bool false]::H) 138 [qag e.cons,.int .i64 0,.int .i64 0,.func 283 [] [.ptr 5 0]]=some (.ret (.bool (decide ((e.cons.length:Int)≤0))) .same):=fun H=>
  qky (b:=5) (b':=4) _ rfl rfl rfl rfl rfl rfl (q1r e.cons (oneW 1 2).cells binL (by simp)) rfl
 rw[qdw]
 rw[C_fn rfl Tryz.func269 rfl (by kernel_rfl) (m:=107) rfl];simp only[Z3,simprocAttr,Tryz.f269,qak,qan,hop,hk,bne,e1,e2,e3]
 cases h1:binL.any (e.name== ·)
 ·simp only[Z3,simprocAttr,qak,hop,hk,bne,e1,e2,e3,h1]
 cases h2:(e.n==0)
 ·simp only[Z3,simprocAttr,qak,hop,hk,bne,e1,e2,e3,h1,h2]
 cases h3:decide ((e.cons.length:Int)≤0)
 ·simp only[Z3,simprocAttr,qak,hop,hk,bne,e1,e2,e3,h1,h2,h3]
 cases h4:decide ((e.kids.length:Int)<2)
 rotate_left
 ·simp only[Z3,simprocAttr,qak,hop,hk,bne,e1,e2,e3,h1,h2,h3,h4]
 cases h5:decide ((2:Int)<(e.kids.length:Int))
 rotate_left
 ·simp only[Z3,simprocAttr,qak,hop,hk,bne,e1,e2,e3,h1,h2,h3,h4,h5]
 simp only[Z3,simprocAttr,qak,hop,hk,bne,e1,e2,e3,h1,h2,h3,h4,h5]
theorem expr_7 (made:Bool) (e:PExpr) (hop:e.op=7) (hs:e.Small) (_hr:qbp e.n)
 (hk:∀H,qai C (.box [.bool made]::H) 284 [.slice (e.kids.map PExpr.cells) .free,.func 285 [] [.ptr 0 0]]=some (.ret (.bool (e.kids.any fun x=> !qa1 made x)) .same)):
 C 269 [qan made,.agg e.cells] []=some (.ret (.bool (qa1 made e)) .same):=by
 have hw:qa1 made e=((e.name==[]) && (e.n==0) && (decide ((0:Int)≤(e.cons.length:Int)) && decide ((e.cons.length:Int)≤0) && !e.cons.any fun _=> !false) && !decide ((e.kids.length:Int)<3) && !decide ((3:Int)<(e.kids.length:Int)) && !(false && !((e.cons.length:Int)==(e.kids.length:Int))) && !(false && !qee e.kids) && !(e.kids.any fun k=> !qa1 made k)):=by
  rw[qea,hop];rfl
 rw[hw];clear hw
 have e1:=of_7 made
 unfold OfR qan at e1
 have e3:∀H,qai C (.box [.bool made]:: .box e.cells:: .box [.nilf,.nilf,.nilf,.int .i64 0,.int .i64 0,.int .i64 3,.int .i64 3,.bool false]::H) 138 [qag e.cons,.int .i64 0,.int .i64 0,.func 283 [] [.ptr 2 0]]=some (.ret (.bool (decide ((e.cons.length:Int)≤0))) .same):=fun H=>
  qdw e.cons▸qbd (b:=2) _ rfl rfl rfl (qht e.cons hs.cons.1 _ (qcz .nilf .nilf .nilf 0 0 3 3 false).cells rfl) rfl
 rw[qdw]
 rw[C_fn rfl Tryz.func269 rfl (by kernel_rfl) (m:=107) rfl];simp only[Z3,simprocAttr,Tryz.f269,qak,qan,hop,hk,bne,e1 _,e3]
 cases h1:(e.name==[])
 ·simp only[Z3,simprocAttr,qak,hop,hk,bne,e1 _,e3,h1]
 cases h2:(e.n==0)
 ·simp only[Z3,simprocAttr,qak,hop,hk,bne,e1 _,e3,h1,h2]
 cases h3:decide ((e.cons.length:Int)≤0)
 ·simp only[Z3,simprocAttr,qak,hop,hk,bne,e1 _,e3,h1,h2,h3]
 cases h4:decide ((e.kids.length:Int)<3)
 rotate_left
 ·simp only[Z3,simprocAttr,qak,hop,hk,bne,e1 _,e3,h1,h2,h3,h4]
 cases h5:decide ((3:Int)<(e.kids.length:Int))
 rotate_left
 ·simp only[Z3,simprocAttr,qak,hop,hk,bne,e1 _,e3,h1,h2,h3,h4,h5]
 simp only[Z3,simprocAttr,qak,hop,hk,bne,e1 _,e3,h1,h2,h3,h4,h5]
theorem expr_8 (made:Bool) (e:PExpr) (hop:e.op=8) (hs:e.Small) (_hr:qbp e.n)
 (hk:∀H,qai C (.box [.bool made]::H) 284 [.slice (e.kids.map PExpr.cells) .free,.func 285 [] [.ptr 0 0]]=some (.ret (.bool (e.kids.any fun x=> !qa1 made x)) .same)):
 C 269 [qan made,.agg e.cells] []=some (.ret (.bool (qa1 made e)) .same):=by
 have hw:qa1 made e=((e.name==[]) && (e.n==0) && (decide ((0:Int)≤(e.cons.length:Int)) && decide ((e.cons.length:Int)≤0) && !e.cons.any fun _=> !false) && !decide ((e.kids.length:Int)<2) && !decide ((2:Int)<(e.kids.length:Int)) && !(false && !((e.cons.length:Int)==(e.kids.length:Int))) && !(false && !qee e.kids) && !(e.kids.any fun k=> !qa1 made k)):=by
  rw[qea,hop];rfl
 rw[hw];clear hw
 have e1:=of_8 made
 unfold OfR qan at e1
 have e3:∀H,qai C (.box [.bool made]:: .box e.cells:: .box [.nilf,.nilf,.nilf,.int .i64 0,.int .i64 0,.int .i64 2,.int .i64 2,.bool false]::H) 138 [qag e.cons,.int .i64 0,.int .i64 0,.func 283 [] [.ptr 2 0]]=some (.ret (.bool (decide ((e.cons.length:Int)≤0))) .same):=fun H=>
  qdw e.cons▸qbd (b:=2) _ rfl rfl rfl (qht e.cons hs.cons.1 _ (qcz .nilf .nilf .nilf 0 0 2 2 false).cells rfl) rfl
 rw[qdw]
 rw[C_fn rfl Tryz.func269 rfl (by kernel_rfl) (m:=107) rfl];simp only[Z3,simprocAttr,Tryz.f269,qak,qan,hop,hk,bne,e1 _,e3]
 cases h1:(e.name==[])
 ·simp only[Z3,simprocAttr,qak,hop,hk,bne,e1 _,e3,h1]
 cases h2:(e.n==0)
 ·simp only[Z3,simprocAttr,qak,hop,hk,bne,e1 _,e3,h1,h2]
 cases h3:decide ((e.cons.length:Int)≤0)
 ·simp only[Z3,simprocAttr,qak,hop,hk,bne,e1 _,e3,h1,h2,h3]
 cases h4:decide ((e.kids.length:Int)<2)
 rotate_left
 ·simp only[Z3,simprocAttr,qak,hop,hk,bne,e1 _,e3,h1,h2,h3,h4]
 cases h5:decide ((2:Int)<(e.kids.length:Int))
 rotate_left
 ·simp only[Z3,simprocAttr,qak,hop,hk,bne,e1 _,e3,h1,h2,h3,h4,h5]
 simp only[Z3,simprocAttr,qak,hop,hk,bne,e1 _,e3,h1,h2,h3,h4,h5]
theorem expr_9 (made:Bool) (e:PExpr) (hop:e.op=9) (hs:e.Small) (_hr:qbp e.n)
 (hk:∀H,qai C (.box [.bool made]::H) 284 [.slice (e.kids.map PExpr.cells) .free,.func 285 [] [.ptr 0 0]]=some (.ret (.bool (e.kids.any fun x=> !qa1 made x)) .same)):
 C 269 [qan made,.agg e.cells] []=some (.ret (.bool (qa1 made e)) .same):=by
 have hw:qa1 made e=((e.name==[]) && (e.n==0) && (decide ((0:Int)≤(e.cons.length:Int)) && decide ((e.cons.length:Int)≤0) && !e.cons.any fun _=> !false) && !decide ((e.kids.length:Int)<1) && !decide ((1:Int)<(e.kids.length:Int)) && !(false && !((e.cons.length:Int)==(e.kids.length:Int))) && !(false && !qee e.kids) && !(e.kids.any fun k=> !qa1 made k)):=by
  rw[qea,hop];rfl
 rw[hw];clear hw
 have e1:=of_9 made
 unfold OfR qan at e1
 have e3:∀H,qai C (.box [.bool made]:: .box e.cells:: .box [.nilf,.nilf,.nilf,.int .i64 0,.int .i64 0,.int .i64 1,.int .i64 1,.bool false]::H) 138 [qag e.cons,.int .i64 0,.int .i64 0,.func 283 [] [.ptr 2 0]]=some (.ret (.bool (decide ((e.cons.length:Int)≤0))) .same):=fun H=>
  qdw e.cons▸qbd (b:=2) _ rfl rfl rfl (qht e.cons hs.cons.1 _ (qcz .nilf .nilf .nilf 0 0 1 1 false).cells rfl) rfl
 rw[qdw]
 rw[C_fn rfl Tryz.func269 rfl (by kernel_rfl) (m:=107) rfl];simp only[Z3,simprocAttr,Tryz.f269,qak,qan,hop,hk,bne,e1 _,e3]
 cases h1:(e.name==[])
 ·simp only[Z3,simprocAttr,qak,hop,hk,bne,e1 _,e3,h1]
 cases h2:(e.n==0)
 ·simp only[Z3,simprocAttr,qak,hop,hk,bne,e1 _,e3,h1,h2]
 cases h3:decide ((e.cons.length:Int)≤0)
 ·simp only[Z3,simprocAttr,qak,hop,hk,bne,e1 _,e3,h1,h2,h3]
 cases h4:decide ((e.kids.length:Int)<1)
 rotate_left
 ·simp only[Z3,simprocAttr,qak,hop,hk,bne,e1 _,e3,h1,h2,h3,h4]
 cases h5:decide ((1:Int)<(e.kids.length:Int))
 rotate_left
 ·simp only[Z3,simprocAttr,qak,hop,hk,bne,e1 _,e3,h1,h2,h3,h4,h5]
 simp only[Z3,simprocAttr,qak,hop,hk,bne,e1 _,e3,h1,h2,h3,h4,h5]
theorem expr_10 (made:Bool) (e:PExpr) (hop:e.op=10) (hs:e.Small) (_hr:qbp e.n)
 (hk:∀H,qai C (.box [.bool made]::H) 284 [.slice (e.kids.map PExpr.cells) .free,.func 285 [] [.ptr 0 0]]=some (.ret (.bool (e.kids.any fun x=> !qa1 made x)) .same)):
 C 269 [qan made,.agg e.cells] []=some (.ret (.bool (qa1 made e)) .same):=by
 have hw:qa1 made e=((e.name==[]) && (e.n==0) && (decide ((0:Int)≤(e.cons.length:Int)) && decide ((e.cons.length:Int)≤0) && !e.cons.any fun _=> !false) && !decide ((e.kids.length:Int)<2) && !decide ((2:Int)<(e.kids.length:Int)) && !(false && !((e.cons.length:Int)==(e.kids.length:Int))) && !(false && !qee e.kids) && !(e.kids.any fun k=> !qa1 made k)):=by
  rw[qea,hop];rfl
 rw[hw];clear hw
 have e1:=of_10 made
 unfold OfR qan at e1
 have e3:∀H,qai C (.box [.bool made]:: .box e.cells:: .box [.nilf,.nilf,.nilf,.int .i64 0,.int .i64 0,.int .i64 2,.int .i64 2,.bool false]::H) 138 [qag e.cons,.int .i64 0,.int .i64 0,.func 283 [] [.ptr 2 0]]=some (.ret (.bool (decide ((e.cons.length:Int)≤0))) .same):=fun H=>
  qdw e.cons▸qbd (b:=2) _ rfl rfl rfl (qht e.cons hs.cons.1 _ (qcz .nilf .nilf .nilf 0 0 2 2 false).cells rfl) rfl
 rw[qdw]
 rw[C_fn rfl Tryz.func269 rfl (by kernel_rfl) (m:=107) rfl];simp only[Z3,simprocAttr,Tryz.f269,qak,qan,hop,hk,bne,e1 _,e3]
 cases h1:(e.name==[])
 ·simp only[Z3,simprocAttr,qak,hop,hk,bne,e1 _,e3,h1]
 cases h2:(e.n==0)
 ·simp only[Z3,simprocAttr,qak,hop,hk,bne,e1 _,e3,h1,h2]
 cases h3:decide ((e.cons.length:Int)≤0)
 ·simp only[Z3,simprocAttr,qak,hop,hk,bne,e1 _,e3,h1,h2,h3]
 cases h4:decide ((e.kids.length:Int)<2)
 rotate_left
 ·simp only[Z3,simprocAttr,qak,hop,hk,bne,e1 _,e3,h1,h2,h3,h4]
 cases h5:decide ((2:Int)<(e.kids.length:Int))
 rotate_left
 ·simp only[Z3,simprocAttr,qak,hop,hk,bne,e1 _,e3,h1,h2,h3,h4,h5]
 simp only[Z3,simprocAttr,qak,hop,hk,bne,e1 _,e3,h1,h2,h3,h4,h5]
theorem expr_11 (made:Bool) (e:PExpr) (hop:e.op=11) (hs:e.Small) (_hr:qbp e.n)
 (hk:∀H,qai C (.box [.bool made]::H) 284 [.slice (e.kids.map PExpr.cells) .free,.func 285 [] [.ptr 0 0]]=some (.ret (.bool (e.kids.any fun x=> !qa1 made x)) .same)):
 C 269 [qan made,.agg e.cells] []=some (.ret (.bool (qa1 made e)) .same):=by
 have hw:qa1 made e=(qde made e.name && (e.n==0) && (decide ((1:Int)≤(e.cons.length:Int)) && decide ((e.cons.length:Int)≤1) && !e.cons.any fun s=> !conB made s) && !decide ((e.kids.length:Int)<1) && !decide ((1:Int)<(e.kids.length:Int)) && !(false && !((e.cons.length:Int)==(e.kids.length:Int))) && !(false && !qee e.kids) && !(e.kids.any fun k=> !qa1 made k)):=by
  rw[qea,hop];rfl
 rw[hw];clear hw
 have e1:=of_11 made
 unfold OfR qan at e1
 have e2:=qkx made e.name hs.name
 unfold qan at e2
 have e3:∀H,qai C (.box [.bool made]:: .box e.cells:: .box [(qgj made),.nilf,(fCon made),.int .i64 1,.int .i64 1,.int .i64 1,.int .i64 1,.bool false]::H) 138 [qag e.cons,.int .i64 1,.int .i64 1,.func 283 [] [.ptr 2 0]]=some (.ret (.bool ((decide ((1:Int)≤(e.cons.length:Int)) && decide ((e.cons.length:Int)≤1) && !e.cons.any fun s=> !conB made s))) .same):=fun H=>
  qbd (b:=2) _ rfl rfl rfl (all_h e.cons hs.cons.1 1 1 _ (qcz (qgj made) .nilf (fCon made) 1 1 1 1 false).cells rfl (fun s=>conB made s) (fun x hx=>qul _ _ _ _ _ _ _ _ _ x _ (qrk made x (hs.cons.2 x hx)) ⟨rfl,rfl⟩)) rfl
 unfold qan at e3
 rw[C_fn rfl Tryz.func269 rfl (by kernel_rfl) (m:=107) rfl];simp only[Z3,simprocAttr,Tryz.f269,qak,qan,hop,hk,bne,e1 _,e2 _,e3]
 cases h1:qde made e.name
 ·simp only[Z3,simprocAttr,qak,hop,hk,bne,e1 _,e2 _,e3,h1]
 cases h2:(e.n==0)
 ·simp only[Z3,simprocAttr,qak,hop,hk,bne,e1 _,e2 _,e3,h1,h2]
 cases h3:(decide ((1:Int)≤(e.cons.length:Int)) && decide ((e.cons.length:Int)≤1) && !e.cons.any fun s=> !conB made s)
 ·simp only[Z3,simprocAttr,qak,hop,hk,bne,e1 _,e2 _,e3,h1,h2,h3]
 cases h4:decide ((e.kids.length:Int)<1)
 rotate_left
 ·simp only[Z3,simprocAttr,qak,hop,hk,bne,e1 _,e2 _,e3,h1,h2,h3,h4]
 cases h5:decide ((1:Int)<(e.kids.length:Int))
 rotate_left
 ·simp only[Z3,simprocAttr,qak,hop,hk,bne,e1 _,e2 _,e3,h1,h2,h3,h4,h5]
 simp only[Z3,simprocAttr,qak,hop,hk,bne,e1 _,e2 _,e3,h1,h2,h3,h4,h5]
theorem expr_12 (made:Bool) (e:PExpr) (hop:e.op=12) (hs:e.Small) (_hr:qbp e.n)
 (hk:∀H,qai C (.box [.bool made]::H) 284 [.slice (e.kids.map PExpr.cells) .free,.func 285 [] [.ptr 0 0]]=some (.ret (.bool (e.kids.any fun x=> !qa1 made x)) .same)):
 C 269 [qan made,.agg e.cells] []=some (.ret (.bool (qa1 made e)) .same):=by
 have hw:qa1 made e=(qde made e.name && (e.n==0) && (decide ((1:Int)≤(e.cons.length:Int)) && decide ((e.cons.length:Int)≤8) && !e.cons.any fun s=> !conB made s) && !decide ((e.kids.length:Int)<1) && !decide ((8:Int)<(e.kids.length:Int)) && !(true && !((e.cons.length:Int)==(e.kids.length:Int))) && !(false && !qee e.kids) && !(e.kids.any fun k=> !qa1 made k)):=by
  rw[qea,hop];rfl
 rw[hw];clear hw
 have e1:=of_12 made
 unfold OfR qan at e1
 have e2:=qkx made e.name hs.name
 unfold qan at e2
 have e3:∀H,qai C (.box [.bool made]:: .box e.cells:: .box [(qgj made),.nilf,(fCon made),.int .i64 1,.int .i64 8,.int .i64 1,.int .i64 8,.bool true]::H) 138 [qag e.cons,.int .i64 1,.int .i64 8,.func 283 [] [.ptr 2 0]]=some (.ret (.bool ((decide ((1:Int)≤(e.cons.length:Int)) && decide ((e.cons.length:Int)≤8) && !e.cons.any fun s=> !conB made s))) .same):=fun H=>
  qbd (b:=2) _ rfl rfl rfl (all_h e.cons hs.cons.1 1 8 _ (qcz (qgj made) .nilf (fCon made) 1 8 1 8 true).cells rfl (fun s=>conB made s) (fun x hx=>qul _ _ _ _ _ _ _ _ _ x _ (qrk made x (hs.cons.2 x hx)) ⟨rfl,rfl⟩)) rfl
 unfold qan at e3
 rw[C_fn rfl Tryz.func269 rfl (by kernel_rfl) (m:=107) rfl];simp only[Z3,simprocAttr,Tryz.f269,qak,qan,hop,hk,bne,e1 _,e2 _,e3]
 cases h1:qde made e.name
 ·simp only[Z3,simprocAttr,qak,hop,hk,bne,e1 _,e2 _,e3,h1]
 cases h2:(e.n==0)
 ·simp only[Z3,simprocAttr,qak,hop,hk,bne,e1 _,e2 _,e3,h1,h2]
 cases h3:(decide ((1:Int)≤(e.cons.length:Int)) && decide ((e.cons.length:Int)≤8) && !e.cons.any fun s=> !conB made s)
 ·simp only[Z3,simprocAttr,qak,hop,hk,bne,e1 _,e2 _,e3,h1,h2,h3]
 cases h4:decide ((e.kids.length:Int)<1)
 rotate_left
 ·simp only[Z3,simprocAttr,qak,hop,hk,bne,e1 _,e2 _,e3,h1,h2,h3,h4]
 cases h5:decide ((8:Int)<(e.kids.length:Int))
 rotate_left
 ·simp only[Z3,simprocAttr,qak,hop,hk,bne,e1 _,e2 _,e3,h1,h2,h3,h4,h5]
 cases h6:((e.cons.length:Int)==(e.kids.length:Int))
 ·simp only[Z3,simprocAttr,qak,hop,hk,bne,e1 _,e2 _,e3,h1,h2,h3,h4,h5,h6]
 simp only[Z3,simprocAttr,qak,hop,hk,bne,e1 _,e2 _,e3,h1,h2,h3,h4,h5,h6]
theorem expr_13 (made:Bool) (e:PExpr) (hop:e.op=13) (hs:e.Small) (_hr:qbp e.n)
 (hk:∀H,qai C (.box [.bool made]::H) 284 [.slice (e.kids.map PExpr.cells) .free,.func 285 [] [.ptr 0 0]]=some (.ret (.bool (e.kids.any fun x=> !qa1 made x)) .same)):
 C 269 [qan made,.agg e.cells] []=some (.ret (.bool (qa1 made e)) .same):=by
 have hw:qa1 made e=(qde made e.name && (e.n==0) && (decide ((1:Int)≤(e.cons.length:Int)) && decide ((e.cons.length:Int)≤8) && !e.cons.any fun s=> !conB made s) && !decide ((e.kids.length:Int)<1) && !decide ((8:Int)<(e.kids.length:Int)) && !(true && !((e.cons.length:Int)==(e.kids.length:Int))) && !(false && !qee e.kids) && !(e.kids.any fun k=> !qa1 made k)):=by
  rw[qea,hop];rfl
 rw[hw];clear hw
 have e1:=of_13 made
 unfold OfR qan at e1
 have e2:=qkx made e.name hs.name
 unfold qan at e2
 have e3:∀H,qai C (.box [.bool made]:: .box e.cells:: .box [(qgj made),.nilf,(fCon made),.int .i64 1,.int .i64 8,.int .i64 1,.int .i64 8,.bool true]::H) 138 [qag e.cons,.int .i64 1,.int .i64 8,.func 283 [] [.ptr 2 0]]=some (.ret (.bool ((decide ((1:Int)≤(e.cons.length:Int)) && decide ((e.cons.length:Int)≤8) && !e.cons.any fun s=> !conB made s))) .same):=fun H=>
  qbd (b:=2) _ rfl rfl rfl (all_h e.cons hs.cons.1 1 8 _ (qcz (qgj made) .nilf (fCon made) 1 8 1 8 true).cells rfl (fun s=>conB made s) (fun x hx=>qul _ _ _ _ _ _ _ _ _ x _ (qrk made x (hs.cons.2 x hx)) ⟨rfl,rfl⟩)) rfl
 unfold qan at e3
 rw[C_fn rfl Tryz.func269 rfl (by kernel_rfl) (m:=107) rfl];simp only[Z3,simprocAttr,Tryz.f269,qak,qan,hop,hk,bne,e1 _,e2 _,e3]
 cases h1:qde made e.name
 ·simp only[Z3,simprocAttr,qak,hop,hk,bne,e1 _,e2 _,e3,h1]
 cases h2:(e.n==0)
 ·simp only[Z3,simprocAttr,qak,hop,hk,bne,e1 _,e2 _,e3,h1,h2]
 cases h3:(decide ((1:Int)≤(e.cons.length:Int)) && decide ((e.cons.length:Int)≤8) && !e.cons.any fun s=> !conB made s)
 ·simp only[Z3,simprocAttr,qak,hop,hk,bne,e1 _,e2 _,e3,h1,h2,h3]
 cases h4:decide ((e.kids.length:Int)<1)
 rotate_left
 ·simp only[Z3,simprocAttr,qak,hop,hk,bne,e1 _,e2 _,e3,h1,h2,h3,h4]
 cases h5:decide ((8:Int)<(e.kids.length:Int))
 rotate_left
 ·simp only[Z3,simprocAttr,qak,hop,hk,bne,e1 _,e2 _,e3,h1,h2,h3,h4,h5]
 cases h6:((e.cons.length:Int)==(e.kids.length:Int))
 ·simp only[Z3,simprocAttr,qak,hop,hk,bne,e1 _,e2 _,e3,h1,h2,h3,h4,h5,h6]
 simp only[Z3,simprocAttr,qak,hop,hk,bne,e1 _,e2 _,e3,h1,h2,h3,h4,h5,h6]
theorem expr_14 (made:Bool) (e:PExpr) (hop:e.op=14) (hs:e.Small) (_hr:qbp e.n)
 (hk:∀H,qai C (.box [.bool made]::H) 284 [.slice (e.kids.map PExpr.cells) .free,.func 285 [] [.ptr 0 0]]=some (.ret (.bool (e.kids.any fun x=> !qa1 made x)) .same)):
 C 269 [qan made,.agg e.cells] []=some (.ret (.bool (qa1 made e)) .same):=by
 have hw:qa1 made e=(qde made e.name && (e.n==0) && (decide ((0:Int)≤(e.cons.length:Int)) && decide ((e.cons.length:Int)≤6) && !e.cons.any fun s=> !qde made s) && !decide ((e.kids.length:Int)<1) && !decide ((6:Int)<(e.kids.length:Int)) && !(false && !((e.cons.length:Int)==(e.kids.length:Int))) && !(false && !qee e.kids) && !(e.kids.any fun k=> !qa1 made k)):=by
  rw[qea,hop];rfl
 rw[hw];clear hw
 have e1:=of_14 made
 unfold OfR qan at e1
 have e2:=qkx made e.name hs.name
 unfold qan at e2
 have e3:∀H,qai C (.box [.bool made]:: .box e.cells:: .box [(qgj made),.nilf,(qgj made),.int .i64 0,.int .i64 6,.int .i64 1,.int .i64 6,.bool false]::H) 138 [qag e.cons,.int .i64 0,.int .i64 6,.func 283 [] [.ptr 2 0]]=some (.ret (.bool ((decide ((e.cons.length:Int)≤6) && !e.cons.any fun s=> !qde made s))) .same):=fun H=>
  q1s e.cons.length _ _▸qbd (b:=2) _ rfl rfl rfl (all_h e.cons hs.cons.1 0 6 _ (qcz (qgj made) .nilf (qgj made) 0 6 1 6 false).cells rfl (fun s=>qde made s) (fun x hx=>qul _ _ _ _ _ _ _ _ _ x _ (qkx made x (hs.cons.2 x hx)) ⟨rfl,rfl⟩)) rfl
 unfold qan at e3
 rw[q1s]
 rw[C_fn rfl Tryz.func269 rfl (by kernel_rfl) (m:=107) rfl];simp only[Z3,simprocAttr,Tryz.f269,qak,qan,hop,hk,bne,e1 _,e2 _,e3]
 cases h1:qde made e.name
 ·simp only[Z3,simprocAttr,qak,hop,hk,bne,e1 _,e2 _,e3,h1]
 cases h2:(e.n==0)
 ·simp only[Z3,simprocAttr,qak,hop,hk,bne,e1 _,e2 _,e3,h1,h2]
 cases h3:(decide ((e.cons.length:Int)≤6) && !e.cons.any fun s=> !qde made s)
 ·simp only[Z3,simprocAttr,qak,hop,hk,bne,e1 _,e2 _,e3,h1,h2,h3]
 cases h4:decide ((e.kids.length:Int)<1)
 rotate_left
 ·simp only[Z3,simprocAttr,qak,hop,hk,bne,e1 _,e2 _,e3,h1,h2,h3,h4]
 cases h5:decide ((6:Int)<(e.kids.length:Int))
 rotate_left
 ·simp only[Z3,simprocAttr,qak,hop,hk,bne,e1 _,e2 _,e3,h1,h2,h3,h4,h5]
 simp only[Z3,simprocAttr,qak,hop,hk,bne,e1 _,e2 _,e3,h1,h2,h3,h4,h5]
theorem expr_15 (made:Bool) (e:PExpr) (hop:e.op=15) (hs:e.Small) (_hr:qbp e.n)
 (hk:∀H,qai C (.box [.bool made]::H) 284 [.slice (e.kids.map PExpr.cells) .free,.func 285 [] [.ptr 0 0]]=some (.ret (.bool (e.kids.any fun x=> !qa1 made x)) .same)):
 C 269 [qan made,.agg e.cells] []=some (.ret (.bool (qa1 made e)) .same):=by
 have hw:qa1 made e=((e.name==[]) && (e.n==0) && (decide ((0:Int)≤(e.cons.length:Int)) && decide ((e.cons.length:Int)≤0) && !e.cons.any fun _=> !false) && !decide ((e.kids.length:Int)<2) && !decide ((2:Int)<(e.kids.length:Int)) && !(false && !((e.cons.length:Int)==(e.kids.length:Int))) && !(true && !qee e.kids) && !(e.kids.any fun k=> !qa1 made k)):=by
  rw[qea,hop];rfl
 rw[hw];clear hw
 have e1:=of_15 made
 unfold OfR qan at e1
 have e3:∀H,qai C (.box [.bool made]:: .box e.cells:: .box [.nilf,.nilf,.nilf,.int .i64 0,.int .i64 0,.int .i64 2,.int .i64 2,.bool false]::H) 138 [qag e.cons,.int .i64 0,.int .i64 0,.func 283 [] [.ptr 2 0]]=some (.ret (.bool (decide ((e.cons.length:Int)≤0))) .same):=fun H=>
  qdw e.cons▸qbd (b:=2) _ rfl rfl rfl (qht e.cons hs.cons.1 _ (qcz .nilf .nilf .nilf 0 0 2 2 false).cells rfl) rfl
 obtain⟨kids,hkd⟩:∃l,e.kids=l:=⟨_,rfl⟩
 rw[hkd]at hk ⊢
 have hg:=e.get4
 rw[hkd]at hg
 rw[qdw]
 rw[C_fn rfl Tryz.func269 rfl (by kernel_rfl) (m:=107) rfl];simp only[Z3,simprocAttr,Tryz.f269,qak,qan,hop,hk,bne,e1 _,e3,hg]
 cases h1:(e.name==[])
 ·simp only[Z3,simprocAttr,qak,hop,hk,bne,e1 _,e3,hg,h1]
 cases h2:(e.n==0)
 ·simp only[Z3,simprocAttr,qak,hop,hk,bne,e1 _,e3,hg,h1,h2]
 cases h3:decide ((e.cons.length:Int)≤0)
 ·simp only[Z3,simprocAttr,qak,hop,hk,bne,e1 _,e3,hg,h1,h2,h3]
 cases h4:decide ((kids.length:Int)<2)
 rotate_left
 ·simp only[Z3,simprocAttr,qak,hop,hk,bne,e1 _,e3,hg,h1,h2,h3,h4]
 cases h5:decide ((2:Int)<(kids.length:Int))
 rotate_left
 ·simp only[Z3,simprocAttr,qak,hop,hk,bne,e1 _,e3,hg,h1,h2,h3,h4,h5]
 cases kids with
 |nil=>simp at h4
 |cons k0 r=>
  simp only[wg]at h4 h5
  simp only[wj]at hg hk
  cases h6:k0.op==14
  ·simp only[Z3,simprocAttr,qak,hop,hk,bne,e1 _,e3,hg,h1,h2,h3,h4,h5,h6,qee,bne]
  ·simp only[Z3,simprocAttr,qak,hop,hk,bne,e1 _,e3,hg,h1,h2,h3,h4,h5,h6,qee,bne]
end Go.Ab
