/- What an op asks for. -/
import Derived.Test.YtngklkmeknmloaaGreatDoorAbTypes
import Derived.Test.YtngklkmeknmloaaGreatDoorAbSameD
import Derived.Test.YtngklkmeknmloaaGreatDoorAbSl
set_option linter.unusedSimpArgs false
set_option linter.unusedVariables false
set_option maxRecDepth 100000
set_option maxHeartbeats 4000000
open Go.Proofs
namespace Go.Ab
open Go Go.Ab.Tab
end Go.Ab
namespace Go.Ab
open Go Go.Ab.Tab
theorem all1_c (g:FuncId) (fst:List AVal) (s:Str) (b:Bool) (hp:Ret C g (fst++[.str s]) (.bool b)):
 C 204 [.str s,.ptr 0 0] [.box [.func g fst []]]=some (.ret (.bool (!b)) .same):=by
 rw[C_fn rfl Tryz.func204 rfl (by kernel_rfl) (m:=6) rfl];simp only[Z3,simprocAttr,Tryz.f204,fx_204,List.append_nil,hp _,qa0 1 _ _ [] (by simp)]
theorem all_c (l:List Str) (hl:l.length≤qac) (least most:Int) (g:FuncId) (fst:List AVal) (hf:qad fst=[]) (p:Str→Bool) (hp:∀x∈l,Ret C g (fst++[.str x]) (.bool (p x))):
 Ret C 138 [qag l,.int .i64 least,.int .i64 most,.func g fst []] (.bool (decide (least≤l.length) && decide ((l.length:Int)≤most) && !l.any fun s=> !p s)):=by
 refine Ret.mk (by simp[qad,refs,hf,qag]) rfl ?_
 have e1:=qyl l hl 204 [.func g fst []] (by simp[qad,refs,hf]) (fun s=> !p s) (fun x hx H=>
  qbd (b:=0) _ rfl rfl (by simp[qad,refs,hf]) (all1_c g fst x (p x) (hp x hx)) rfl)
 have e2:∀H,qai C (.box [.func g fst []]::H) 203 [.slice (l.map fun s=>[.str s]) .free,.func 204 [] [.ptr 0 0]]=some (.ret (.bool (l.any fun s=> !p s)) .same):=fun H=>
  qbd (b:=0) _ rfl rfl (by simp[qad,refs,hf]) e1 rfl
 rw[C_fn rfl Tryz.func138 rfl (by kernel_rfl) (m:=21) rfl];simp only[Z3,simprocAttr,Tryz.f138,qji,qag]
 cases h1:decide (least≤(l.length:Int))
 ·simp only[Z3,simprocAttr,qji,h1]
 cases h2:decide ((l.length:Int)≤most)
 ·simp only[Z3,simprocAttr,qji,h1,h2]
 ·simp only[Z3,simprocAttr,qji,h1,h2,e2]
end Go.Ab
namespace Go.Ab
open Go Go.Ab.Tab
def qan (made:Bool):AVal:= .agg [.bool made]
def qm6 (made:Bool):Str→Str
 |[]=>[]
 |c::r=>if made && c==95 && !r.isEmpty then r else c::r
theorem top1:1≤qac:=by decide
theorem top0:0≤qac:=by decide
theorem one_beq (c:UInt8):([c]==[(95:UInt8)])=(c==95):=by simp[List.cons_beq_cons]
theorem ge1 (n:Nat):decide (((1:Nat):Int)≤((n+1:Nat):Int))=true:=decide_eq_true (by omega)
theorem ge10:decide (((1:Nat):Int)≤((0:Nat):Int))=false:=by decide
theorem le1 (n:Nat):(((1:Nat):Int)≤((n+1:Nat):Int))=True:=eq_true (by omega)
theorem hasPre_c (s:Str) (hs:s.length≤qac):Ret C 234 [.str s,.str [95]] (.bool (match s with|[]=>false|c::_=>c==95)):=by
 refine Ret.mk rfl rfl ?_
 cases s with
 |nil=>rw[C_fn rfl Tryz.func234 rfl (by kernel_rfl) (m:=16) rfl];simp only[Z3,Nat.reduceAdd,Nat.reduceBEq,Int.reduceBEq,Int.reduceBNe,Int.reduceLT,Int.reduceLE,Tryz.f234,qxh,top1,top0,ge10]
 |cons c r=>
  have hs':r.length+1≤qac:=hs
  rw[C_fn rfl Tryz.func234 rfl (by kernel_rfl) (m:=16) rfl];simp only[Z3,Nat.reduceAdd,Nat.reduceBEq,Int.reduceBEq,Int.reduceBNe,Int.reduceLT,Int.reduceLE,Tryz.f234,qxh,top1,hs',ge1,le1,qot,one_beq]
def cutS:Str→Str
 |[]=>[]
 |c::r=>if c==95 then r else c::r
def cutO:Str→Bool
 |[]=>false
 |c::_=>c==95
theorem cut1_c (s:Str) (hs:s.length≤qac):Ret C 268 [.str s,.str [95]] (.tuple [.str (cutS s),.bool (cutO s)]):=by
 refine Ret.mk rfl rfl ?_
 have e1:=hasPre_c s hs
 cases s with
 |nil=>rw[C_fn rfl Tryz.func268 rfl (by kernel_rfl) (m:=13) rfl];simp only[Z3,Nat.reduceAdd,Nat.reduceBEq,Int.reduceBEq,Int.reduceBNe,Int.reduceLT,Int.reduceLE,Tryz.f268,qxj,e1 _,cutS,cutO]
 |cons c r=>
  have hs':r.length+1≤qac:=hs
  rw[C_fn rfl Tryz.func268 rfl (by kernel_rfl) (m:=13) rfl];simp only[Z3,Nat.reduceAdd,Nat.reduceBEq,Int.reduceBEq,Int.reduceBNe,Int.reduceLT,Int.reduceLE,Tryz.f268,qxj,e1 _,cutS,cutO]
  cases h:c==95
  ·simp only[Z3,Nat.reduceAdd,Nat.reduceBEq,Int.reduceBEq,Int.reduceBNe,Int.reduceLT,Int.reduceLE,qxj]
  ·simp only[Z3,Nat.reduceAdd,Nat.reduceBEq,Int.reduceBEq,Int.reduceBNe,Int.reduceLT,Int.reduceLE,qxj,top1,hs',le1,sl_lo]
theorem cut_c (s:Str) (hs:s.length≤qac):Ret C 240 [.str s,.str [95]] (.tuple [.str (cutS s),.bool (cutO s)]):=by
 refine Ret.mk rfl rfl ?_
 have e1:=cut1_c s hs
 rw[C_fn rfl Tryz.func240 rfl (by kernel_rfl) (m:=9) rfl];simp only[Z3,Nat.reduceAdd,Nat.reduceBEq,Int.reduceBEq,Int.reduceBNe,Int.reduceLT,Int.reduceLE,Tryz.f240,fx_240,e1 _]
theorem q1q (c:UInt8) (r:Str):((c::r)==([]:Str))=false:=rfl
theorem bare_c (made:Bool) (s:Str) (hs:s.length≤qac):Ret C 202 [qan made,.str s] (.str (qm6 made s)):=by
 refine Ret.mk rfl rfl ?_
 have e1:=cut_c s hs
 cases s with
 |nil=>cases made<;>(rw[C_fn rfl Tryz.func202 rfl (by kernel_rfl) (m:=21) rfl];simp only[Z3,Nat.reduceAdd,Nat.reduceBEq,Int.reduceBEq,Int.reduceBNe,Int.reduceLT,Int.reduceLE,Tryz.f202,qpw,qan,e1 _,cutS,cutO,qm6])
 |cons c r=>
  rw[C_fn rfl Tryz.func202 rfl (by kernel_rfl) (m:=21) rfl];simp only[Z3,Nat.reduceAdd,Nat.reduceBEq,Int.reduceBEq,Int.reduceBNe,Int.reduceLT,Int.reduceLE,Tryz.f202,qpw,qan,e1 _,cutS,cutO,qm6]
  cases h:c==95
  ·simp only[Z3,Nat.reduceAdd,Nat.reduceBEq,Int.reduceBEq,Int.reduceBNe,Int.reduceLT,Int.reduceLE,qpw,h]
  ·cases made
   ·simp only[Z3,Nat.reduceAdd,Nat.reduceBEq,Int.reduceBEq,Int.reduceBNe,Int.reduceLT,Int.reduceLE,qpw,h]
   ·cases r with
    |nil=>simp only[Z3,Nat.reduceAdd,Nat.reduceBEq,Int.reduceBEq,Int.reduceBNe,Int.reduceLT,Int.reduceLE,qpw,h,List.isEmpty_nil]
    |cons d t=>simp only[Z3,Nat.reduceAdd,Nat.reduceBEq,Int.reduceBEq,Int.reduceBNe,Int.reduceLT,Int.reduceLE,qpw,h,q1q,List.isEmpty_cons]
theorem qu8 (made:Bool) (s:Str) (hs:s.length≤qac):(qm6 made s).length≤qac:=by
 cases s with
 |nil=>exact hs
 |cons c r=>
  simp only[qm6]
  split
  ·simp only[List.length_cons]at hs;omega
  ·exact hs
def qde (made:Bool) (s:Str):Bool:=qdv (qm6 made s)
def conB (made:Bool) (s:Str):Bool:=qiu (qm6 made s)
theorem qkx (made:Bool) (s:Str) (hs:s.length≤qac):Ret C 137 [qan made,.str s] (.bool (qde made s)):=by
 refine Ret.mk rfl rfl ?_
 have e1:=bare_c made s hs
 have e2:=isName_c (qm6 made s) (qu8 made s hs)
 unfold qan at*
 rw[C_fn rfl Tryz.func137 rfl (by kernel_rfl) (m:=7) rfl];simp only[Z3,Nat.reduceAdd,Nat.reduceBEq,Int.reduceBEq,Int.reduceBNe,Int.reduceLT,Int.reduceLE,Tryz.f137,fx_137,e1 _,e2 _,qde]
theorem qrk (made:Bool) (s:Str) (hs:s.length≤qac):Ret C 139 [qan made,.str s] (.bool (conB made s)):=by
 refine Ret.mk rfl rfl ?_
 have e1:=bare_c made s hs
 have e2:=isCon_c (qm6 made s) (qu8 made s hs)
 unfold qan at*
 rw[C_fn rfl Tryz.func139 rfl (by kernel_rfl) (m:=7) rfl];simp only[Z3,Nat.reduceAdd,Nat.reduceBEq,Int.reduceBEq,Int.reduceBNe,Int.reduceLT,Int.reduceLE,Tryz.f139,fx_139,e1 _,e2 _,conB]
end Go.Ab
namespace Go.Ab
open Go Go.Ab.Tab
def str (s:String):Str:=s.toUTF8.data.toList
def unL:List Str:=[[110,111,116],[45]]
def binL:List Str:=[[43],[45],[42],[47],[37],[60],[60,61],[61],[60,62],[97,110,100],[111,114]]
abbrev qcz (name n cons:AVal) (least most kids many:Int) (am:Bool):AVal:=
 .agg [name,n,cons,.int .i64 least,.int .i64 most,.int .i64 kids,.int .i64 many,.bool am]
abbrev qgj (made:Bool):AVal:= .func 137 [qan made] []
abbrev fCon (made:Bool):AVal:= .func 139 [qan made] []
abbrev OfR (made:Bool) (op:Int) (w:AVal):Prop:=Ret C 282 [qan made,.int .i64 op] (.tuple [w,.bool true])
theorem of_1 (made:Bool):OfR made 1 (qcz .nilf (.func 293 [] []) .nilf 0 0 0 0 false):=by cases made<;>exact Ret.mk rfl rfl (C_of (n:=6) (by kernel_rfl))
theorem of_2 (made:Bool):OfR made 2 (qcz .nilf (.func 294 [] []) .nilf 0 0 0 0 false):=by cases made<;>exact Ret.mk rfl rfl (C_of (n:=6) (by kernel_rfl))
theorem of_3 (made:Bool):OfR made 3 (qcz (fCon made) .nilf .nilf 0 0 0 0 false):=by cases made<;>exact Ret.mk rfl rfl (C_of (n:=6) (by kernel_rfl))
theorem of_4 (made:Bool):OfR made 4 (qcz (qgj made) .nilf .nilf 0 0 0 0 false):=by cases made<;>exact Ret.mk rfl rfl (C_of (n:=6) (by kernel_rfl))
theorem of_7 (made:Bool):OfR made 7 (qcz .nilf .nilf .nilf 0 0 3 3 false):=by cases made<;>exact Ret.mk rfl rfl (C_of (n:=6) (by kernel_rfl))
theorem of_8 (made:Bool):OfR made 8 (qcz .nilf .nilf .nilf 0 0 2 2 false):=by cases made<;>exact Ret.mk rfl rfl (C_of (n:=6) (by kernel_rfl))
theorem of_9 (made:Bool):OfR made 9 (qcz .nilf .nilf .nilf 0 0 1 1 false):=by cases made<;>exact Ret.mk rfl rfl (C_of (n:=6) (by kernel_rfl))
theorem of_10 (made:Bool):OfR made 10 (qcz .nilf .nilf .nilf 0 0 2 2 false):=by cases made<;>exact Ret.mk rfl rfl (C_of (n:=6) (by kernel_rfl))
theorem of_11 (made:Bool):OfR made 11 (qcz (qgj made) .nilf (fCon made) 1 1 1 1 false):=by cases made<;>exact Ret.mk rfl rfl (C_of (n:=6) (by kernel_rfl))
theorem of_12 (made:Bool):OfR made 12 (qcz (qgj made) .nilf (fCon made) 1 8 1 8 true):=by cases made<;>exact Ret.mk rfl rfl (C_of (n:=6) (by kernel_rfl))
theorem of_13 (made:Bool):OfR made 13 (qcz (qgj made) .nilf (fCon made) 1 8 1 8 true):=by cases made<;>exact Ret.mk rfl rfl (C_of (n:=6) (by kernel_rfl))
theorem of_14 (made:Bool):OfR made 14 (qcz (qgj made) .nilf (qgj made) 0 6 1 6 false):=by cases made<;>exact Ret.mk rfl rfl (C_of (n:=6) (by kernel_rfl))
theorem of_15 (made:Bool):OfR made 15 (qcz .nilf .nilf .nilf 0 0 2 2 false):=by cases made<;>exact Ret.mk rfl rfl (C_of (n:=6) (by kernel_rfl))
theorem of_none (made:Bool) (op:Int) (h:∀i∈[1,2,3,4,5,6,7,8,9,10,11,12,13,14,15],op≠i):Ret C 282 [qan made,.int .i64 op] (.tuple [qcz .nilf .nilf .nilf 0 0 0 0 false,.bool false]):=by
 have hb:∀i∈[1,2,3,4,5,6,7,8,9,10,11,12,13,14,15],(op==i)=false:=fun i hi=>beq_false_of_ne (h i hi)
 simp only[List.forall_mem_cons]at hb
 obtain⟨h1,h2,h3,h4,h5,h6,h7,h8,h9,h10,h11,h12,h13,h14,h15,-⟩:=hb
 refine Ret.mk rfl rfl ?_
 rw[C_fn rfl Tryz.func282 rfl (by kernel_rfl) (m:=65) rfl];simp only[Z3,simprocAttr,Tryz.f282,fx_282,qan,h1,h2,h3,h4,h5,h6,h7,h8,h9,h10,h11,h12,h13,h14,h15]
 rfl
abbrev oneW (b:Nat) (k:Int):AVal:=qcz (.func 301 [] [.ptr b 0]) .nilf .nilf 0 0 k k false
theorem of_5 (made:Bool):C 282 [qan made,.int .i64 5] []=some (.ret (.tuple [oneW 2 1,.bool true]) (.heap [.box [.bool made],.box (oneW 2 1).cells,.box [.slice (unL.map fun s=>[.str s]) .full]] [])):=by
 cases made<;>exact C_of (n:=6) (by kernel_rfl)
theorem of_6 (made:Bool):C 282 [qan made,.int .i64 6] []=some (.ret (.tuple [oneW 2 2,.bool true]) (.heap [.box [.bool made],.box (oneW 2 2).cells,.box [.slice (binL.map fun s=>[.str s]) .full]] [])):=by
 cases made<;>exact C_of (n:=6) (by kernel_rfl)
end Go.Ab
