/- The parser gives up: Expr. -/
import Derived.Test.YtngklkmeknmloaaGreatDoorAbBack3
import Derived.Test.YtngklkmeknmloaaGreatDoorAbEach
set_option linter.unusedSimpArgs false
set_option linter.unusedVariables false
set_option maxRecDepth 100000
set_option maxHeartbeats 4000000
open Go.Proofs
open List renaming map_cons→wa,map_nil→wb,length_nil→wc,getElem?_eq_some_iff→wd,getElem?_set_self→we,getElem?_set_ne→wg
namespace Go.Ab
open Go Go.Ab.Tab
theorem D_read (f:FuncId) (h:ext1 f=some (fnF PP cmp0 C lpC f)) (a:List AVal) (H:qab):D f a H=fnF PP cmp0 C lpC f a H:=by unfold D;rw[qtb h]
theorem callA_up {f:FuncId} {args:List AVal} {h:qab} {r:CR} (e:qah C h f args=some r):qah D h f args=some r:=q0e (fun _ _ _ _ e=>up e) e
theorem Ret.up {f:FuncId} {args:List AVal} {v:AVal} (h:Ret C f args v):Ret D f args v:=fun H=>callA_up (h H)
theorem readP_d (text:Str) (hT:text.length≤65536) {l ts':List PTok} {k:Nat} {p:PProg} (hs:qb8 text (text.length+1) 0=(some l,k)) (g:qbk C 37 [.ptr 0 0] [.box (pbox l 0)] (.agg p.cells) [.box (pbox ts' 0)]):
 Ret D 36 [.str text,.func 37 [] []] (.tuple [.agg p.cells,.agg qgl]):=
 Ret.mk rfl (by simp only[refs,qad];rw[p.norefs];rfl) (by rw[D_read _ rfl];exact readP_c text hT hs g)
theorem readE_d (text:Str) (hT:text.length≤65536) {l ts':List PTok} {k:Nat} {p:PExpr} (hs:qb8 text (text.length+1) 0=(some l,k)) (g:qbk C 49 [.ptr 0 0] [.box (pbox l 0)] (.agg p.cells) [.box (pbox ts' 0)]):
 Ret D 48 [.str text,.func 49 [] []] (.tuple [.agg p.cells,.agg qgl]):=
 Ret.mk rfl (by simp only[refs,qad];rw[p.norefs];rfl) (by rw[D_read _ rfl];exact readE_c text hT hs g)
theorem parseP_ok (text:Str) (hT:text.length≤65536) {l ts':List PTok} {k n m:Nat} {p:PProg} (hs:qb8 text (text.length+1) 0=(some l,k)) (hl:TsOk l) (hp:qq0 (pE n) m m l= .ok p ts') (hr:rightI false p=0) (sm:p.Small) (rg:p.Rng):
 Ret D 16 [.str text] (.tuple [.agg p.cells,.agg qgl]):=by
 have g:=readP_d text hT hs (prog_c (que n) (qng n) hl hp)
 unfold qgl at g ⊢
 have rc:=(right_c false p sm rg).up
 rw[hr]at rc
 have sp:∀(x0 x1:AVal),qau [x0,x1] 0 p.cells=some p.cells:=fun _ _=>qci (by rw[p.len];rfl)
 refine Ret.mk rfl (by simp only[refs,qad];rw[p.norefs];rfl) ?_
 rw[D_fn rfl Tryz.func16 rfl (by kernel_rfl) (m:=25) rfl];simp only[Z3,simprocAttr,Tryz.f16,fx_16,effs,g _,sp,p.ones,p.len,p.take,p.strip,rc _]
 try simp only[qcb,wc]
 rw[qg2 _ _ _ (by simp only[strip3,strip2,wa,wb,p.strip,refs,qad,p.norefs];rfl)]
 simp only[strip3,strip2,wa,wb,p.strip]
 rfl
theorem qrb (text:Str) (hT:text.length≤65536) {l ts':List PTok} {k n:Nat} {e:PExpr} (hs:qb8 text (text.length+1) 0=(some l,k)) (hl:TsOk l) (hp:pE n 0 1 l= .ok e ts') (h6:qdt ts'=6):
 Ret D 19 [.str text] (.tuple [.agg e.cells,.agg qgl]):=by
 have g:=readE_d text hT hs (pexprF_c (que n) hl hp h6)
 unfold qgl at g ⊢
 have sp:∀(x0 x1 x2 x3 x4:AVal),qau [x0,x1,x2,x3,x4] 0 e.cells=some e.cells:=fun _ _ _ _ _=>qci (by rw[e.len];rfl)
 refine Ret.mk rfl (by simp only[refs,qad];rw[e.norefs];rfl) ?_
 rw[D_fn rfl Tryz.func19 rfl (by kernel_rfl) (m:=7) rfl];simp only[Z3,simprocAttr,Tryz.f19,fx_19,effs,g _,sp,e.ones,e.len,e.take]
 try simp only[qcb,wc]
 rw[qg2 _ _ _ (by simp only[strip3,strip2,wa,wb,e.strip,refs,qad,e.norefs];rfl)]
 simp only[strip3,strip2,wa,wb,e.strip]
 rfl
end Go.Ab
namespace Go.Ab
open Go Go.Ab.Tab
def fC (a b c:Int):List AVal:=[.int .i64 a,.int .i64 b,.int .i64 c]
theorem qs4 (e:Int) (ts:List PTok):∃b c,faultC e ts=fC e b c:=by
 cases ts with
 |nil=>exact⟨0,0,rfl⟩
 |cons t r=>exact⟨t.line,t.col,rfl⟩
theorem scanV_bad (text:Str) (h:65536<text.length∨(qb8 text (text.length+1) 0).1=none):∃a b c,a≠0∧qgz text= .tuple [.slice [] .free,.agg (fC a b c)]:=by
 unfold qgz
 split
 ·exact⟨9,0,0,by decide,rfl⟩
 ·rename_i hl
  rcases h with h|h
  ·exact absurd h hl
  ·split
   ·rename_i l _ hs;rw[hs]at h;cases h
   ·exact⟨2,_,_,by decide,rfl⟩
theorem scan_any (text:Str) (hl:text.length≤qac):Ret C 73 [.str text] (qgz text):=by
 by_cases h:65536<text.length
 ·exact scan_big text h hl
 ·exact qxl text (by omega)
theorem fnF_er {P:Program} {cmp} {call} {lp} {f:FuncId} {fn:Func} {c:Code} (hf:P.funcs[f]? =some fn) (hb:fn.body=some c) {args:List AVal} {h:qab} {X:Option CR} {m:Nat} (hm:fn.ntmps-args.length=m) {s5:St}
 (h1:qcg P cmp call lp c ⟨args++List.replicate m .undef,h,[]⟩=some (.ret,s5,none)) (h3:endF P fn h s5=X):fnF P cmp call lp f args h=X:=by
 subst hm
 rw[fnF_early hf hb (.inl rfl) h1];exact h3
end Go.Ab
namespace Go.Ab
open Go Go.Ab.Tab
def qk0:List AVal:=[.int .i64 0,.str [],.int .i64 0,.slice [] .free,.slice [] .free]
theorem qyg (text:Str) (hT:text.length≤65536) {l ts':List PTok} {k:Nat} {a b c:Int} (ha:a≠0) (hs:qb8 text (text.length+1) 0=(some l,k)) (g:Pans C 49 [.ptr 0 0] [.box (pbox l 0)] (.iface 29 (.agg [.int .i64 a,.int .i64 b,.int .i64 c]))):
 fnF PP cmp0 C lpC 48 [.str text,.func 49 [] []] []=some (.ret (.tuple [.agg [.int .i64 0,.str [],.int .i64 0,.slice [] .free,.slice [] .free],.agg [.int .i64 a,.int .i64 b,.int .i64 c]]) .same):=by
 have hsc:=qxl text hT
 have hv:qgz text= .tuple [.slice (l.map PTok.cells) .free,.agg (PFault.cells ⟨0,0,0⟩)]:=by unfold qgz;rw[if_neg (by omega),hs]
 rw[hv]at hsc
 have hf0:PFault.cells ⟨0,0,0⟩=[.int .i64 0,.int .i64 0,.int .i64 0]:=rfl
 rw[hf0]at hsc
 obtain⟨E,hE,hO⟩:∃E:Eff,qah C [.box [.int .i64 0,.str [],.int .i64 0,.slice [] .full,.slice [] .full],.box [.int .i64 0,.int .i64 0,.int .i64 0],.box (pbox l 0)] 49 [.ptr 2 0]=some (.pan (.iface 29 (.agg [.int .i64 a,.int .i64 b,.int .i64 c])) E)∧∀k,k<3→k∉[2]→(E.of [.box [.int .i64 0,.str [],.int .i64 0,.slice [] .full,.slice [] .full],.box [.int .i64 0,.int .i64 0,.int .i64 0],.box (pbox l 0)])[k]? =([.box [.int .i64 0,.str [],.int .i64 0,.slice [] .full,.slice [] .full],.box [.int .i64 0,.int .i64 0,.int .i64 0],.box (pbox l 0)]:qab)[k]? :=by
  have e1:subH [.box [.int .i64 0,.str [],.int .i64 0,.slice [] .full,.slice [] .full],.box [.int .i64 0,.int .i64 0,.int .i64 0],.box (pbox l 0)] [2]=[.box (pbox l 0)]:=by simp[subH,renB,qbo (qaa _ _)]
  have e2:renL (fun x=>[2].idxOf x) [.ptr 2 0]=[.ptr 0 0]:=rfl
  refine q3h qay [2] ?_ (by simp) ?_ (by rw[e1,e2];exact g) rfl
  ·simp[qbq,qad,refs,qaa]
  ·unfold qcz
   simp[qdj,qad,refs,qaa]
 have hE:qah C [.box [.int .i64 0,.str [],.int .i64 0,.slice [] .full,.slice [] .full],.box [.int .i64 0,.int .i64 0,.int .i64 0],.box [.slice (l.map PTok.cells) .free,.int .i64 0]] 49 [.ptr 2 0]=some (.pan (.iface 29 (.agg [.int .i64 a,.int .i64 b,.int .i64 c])) E):=hE
 have z0:=hO 0 (by omega) (by simp)
 have z1:=hO 1 (by omega) (by simp)
 obtain⟨G,hG⟩:∃G,G=E.of [.box [.int .i64 0,.str [],.int .i64 0,.slice [] .full,.slice [] .full],.box [.int .i64 0,.int .i64 0,.int .i64 0],.box (pbox l 0)]:=⟨_,rfl⟩
 rw[←hG]at z0 z1
 have hG:E.of [.box [.int .i64 0,.str [],.int .i64 0,.slice [] .full,.slice [] .full],.box [.int .i64 0,.int .i64 0,.int .i64 0],.box [.slice (l.map PTok.cells) .free,.int .i64 0]]=G:=hG.symm
 have z0:G[0]? =some (.box [.int .i64 0,.str [],.int .i64 0,.slice [] .full,.slice [] .full]):=z0
 have z1:G[1]? =some (.box [.int .i64 0,.int .i64 0,.int .i64 0]):=z1
 have l1:=(wd.1 z1).1
 obtain⟨G1,hG1⟩:∃G1,G1=G.set 1 (.box [.int .i64 a,.int .i64 b,.int .i64 c]):=⟨_,rfl⟩
 have y1:G1[1]? =some (.box [.int .i64 a,.int .i64 b,.int .i64 c]):=by rw[hG1,we l1]
 have y0:G1[0]? =some (.box [.int .i64 0,.str [],.int .i64 0,.slice [] .full,.slice [] .full]):=by rw[hG1,wg (by decide)];exact z0
 have ar:argA (AVal.iface 29 (.agg [.int .i64 a,.int .i64 b,.int .i64 c]))=AVal.iface 29 (.agg [.int .i64 a,.int .i64 b,.int .i64 c]):=rfl
 have n0:(a !=0)=true:=by simpa using ha
 obtain⟨G2,hG2⟩:∃G2,G2=G1++[Blk.box [AVal.int .i64 0,.str [],.int .i64 0,.slice [] .full,.slice [] .full]]:=⟨_,rfl⟩
 have x0:G2[0]? =some (.box [.int .i64 0,.str [],.int .i64 0,.slice [] .full,.slice [] .full]):=by rw[hG2];exact Boxes.app _ _ _ _ y0
 have x1:G2[1]? =some (.box [.int .i64 a,.int .i64 b,.int .i64 c]):=by rw[hG2];exact Boxes.app _ _ _ _ y1
 have x2:G2[G1.length]? =some (.box [.int .i64 0,.str [],.int .i64 0,.slice [] .full,.slice [] .full]):=by rw[hG2];simp
 have l0:=(wd.1 x0).1
 have v0:(G2.set 0 (.box [.int .i64 0,.str [],.int .i64 0,.slice [] .full,.slice [] .full]))[0]? =some (.box [.int .i64 0,.str [],.int .i64 0,.slice [] .full,.slice [] .full]):=we l0
 have v1:(G2.set 0 (.box [.int .i64 0,.str [],.int .i64 0,.slice [] .full,.slice [] .full]))[1]? =some (.box [.int .i64 a,.int .i64 b,.int .i64 c]):=by rw[wg (by decide)];exact x1
 apply fnF_gop Tryz.func48 rfl (m:=22) rfl
 ·apply qfm (by kernel_rfl) (by kernel_rfl)
  ·simp only[Z3,simprocAttr,Tryz.f48,qia];rfl
  apply qfm (by kernel_rfl) (by kernel_rfl)
  ·simp only[Z3,simprocAttr,qia,hsc _];rfl
  apply qfm (by kernel_rfl) (by kernel_rfl)
  ·simp only[Z3,simprocAttr,qia];rfl
  apply qvp (by kernel_rfl) rfl
  ·simp only[Z3,simprocAttr,effs,pans,qia,hE,hG]
   rfl
  ·rfl
  ·rfl
 ·apply qyc Tryz.func98 rfl (by rfl) (by kernel_rfl) (by kernel_rfl) (m:=7) rfl
  ·simp only[Z3,simprocAttr,fx_98,effs,ar,caught_f _ _ _ _,hG,z1,←hG1];rfl
  ·simp only[Z3,simprocAttr,fx_98,effs,y1,n0,←hG2,x2,x0];rfl
 ·unfold endF
  rw[show resA PP _ _=some [.agg [.int .i64 0,.str [],.int .i64 0,.slice [] .full,.slice [] .full],.agg [.int .i64 a,.int .i64 b,.int .i64 c]]from ?_]
  ·simp only[wc]
   rw[qg2 _ _ _ (by simp only[qcb,strip3,strip2,wa,wb,refs,qad];rfl)]
   simp only[qcb,strip3,strip2,wa,wb]
   rfl
  ·simp only[Z3,simprocAttr,Tryz.f48,qia,v0,v1]
theorem q5e (text:Str) (hl:text.length≤qac) {a b c:Int} (ha:a≠0) (hv:qgz text= .tuple [.slice [] .free,.agg (fC a b c)]):
 fnF PP cmp0 C lpC 48 [.str text,.func 49 [] []] []=some (.ret (.tuple [.agg qk0,.agg (fC a b c)]) .same):=by
 have hsc:=scan_any text hl
 rw[hv]at hsc
 unfold fC qk0 at*
 have n0:(a !=0)=true:=by simpa using ha
 apply fnF_er Tryz.func48 rfl (m:=22) rfl
 ·apply qfm (by kernel_rfl) (by kernel_rfl)
  ·simp only[Z3,simprocAttr,Tryz.f48,qia];rfl
  apply qfm (by kernel_rfl) (by kernel_rfl)
  ·simp only[Z3,simprocAttr,qia,hsc _];rfl
  apply codeF_ret (by kernel_rfl) (by kernel_rfl)
  ·simp only[Z3,simprocAttr,effs,n0,qia]
   rfl
 ·unfold endF
  rw[show resA PP _ _=some [.agg [.int .i64 0,.str [],.int .i64 0,.slice [] .full,.slice [] .full],.agg [.int .i64 a,.int .i64 b,.int .i64 c]]from ?_]
  ·simp only[wc]
   rw[qg2 _ _ _ (by simp only[qcb,strip3,strip2,wa,wb,refs,qad];rfl)]
   simp only[qcb,strip3,strip2,wa,wb]
   rfl
  ·simp only[Z3,simprocAttr,Tryz.f48,qia]
theorem pexprF_p {N:Nat} {ts ts':List PTok} {e:Int} (hT:TsOk ts) (h:pE N 0 1 ts= .bad e ts'):Pans C 49 [.ptr 0 0] [.box (pbox ts 0)] (qb0 e ts'):=by
 obtain⟨E,e1⟩:=metP (ql4 (o:=0) (badE N) hT (by rw[qsz (by omega)];exact h)) (.inl rfl) (qaa _ _) (qbb _ _)
 refine qbc rfl Tryz.func49 rfl (by kernel_rfl) (m:=12) rfl (qal _ _) ?_;simp only[Z3,simprocAttr,Tryz.f49,effs,pans,fx_49,e1]
 exact qaw
theorem qu0 {R:Rd} (hR:HypE R) {ts ts':List PTok} {e:PExpr} (hT:TsOk ts) (h:R 0 1 ts= .ok e ts') (h6:qdt ts'≠6):Pans C 49 [.ptr 0 0] [.box (pbox ts 0)] (qb0 3 ts'):=by
 obtain⟨hT',g⟩:=qd1 hR hT h
 obtain⟨t,r,rfl⟩:=hT'.ne
 obtain⟨E,e1,e2⟩:=g.m rfl
 have d6:(t.sort !=6)=true:=by have h7:¬t.sort=6:=h6;simpa using h7
 obtain⟨E2,e3⟩:=metP (qxf 3 t r 0) (.inl rfl) (qaa _ _) rfl
 have ec:e.cells.length=5:=e.len
 have sp:∀(x0 x1 x2 x3 x4:AVal),qau [x0,x1,x2,x3,x4] 0 e.cells=some e.cells:=fun _ _ _ _ _=>qci (by rw[e.len];rfl)
 refine qbc rfl Tryz.func49 rfl (by kernel_rfl) (m:=12) rfl (qal _ _) ?_;simp only[Z3,simprocAttr,Tryz.f49,effs,pans,fx_49,e1,e2,qeb,d6,sp,e.ones,e.len,e3]
 exact qaw
theorem qoi (text:Str) {a b c:Int} (g:fnF PP cmp0 C lpC 48 [.str text,.func 49 [] []] []=some (.ret (.tuple [.agg qk0,.agg (fC a b c)]) .same)):
 Ret D 19 [.str text] (.tuple [.agg qk0,.agg (fC a b c)]):=by
 have g:Ret D 48 [.str text,.func 49 [] []] (.tuple [.agg qk0,.agg (fC a b c)]):=Ret.mk rfl rfl (by rw[D_read _ rfl];exact g)
 unfold fC qk0 at*
 refine Ret.mk rfl rfl ?_
 rw[D_fn rfl Tryz.func19 rfl (by kernel_rfl) (m:=7) rfl];simp only[Z3,simprocAttr,Tryz.f19,fx_19,effs,g _]
 try simp only[qcb,wc]
 rw[qg2 _ _ _ (by simp only[strip3,strip2,wa,wb,refs,qad];rfl)]
 simp only[strip3,strip2,wa,wb]
 rfl
end Go.Ab
