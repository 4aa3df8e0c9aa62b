/- The parser gives up: Parse. -/
import Derived.Test.YtngklkmeknmloaaGreatDoorAbScn6
import Derived.Test.YtngklkmeknmloaaGreatDoorAbEach
set_option linter.unusedSimpArgs false
set_option linter.unusedVariables false
set_option maxRecDepth 100000
set_option maxHeartbeats 4000000
open Go.Proofs
open List renaming map_cons→wa,map_nil→wb,length_nil→wc
namespace Go.Ab
open Go Go.Ab.Tab
theorem D_read (f:FuncId) (h:ext1 f=some (fnF PP cmp0 C lpC f)) (a:List AVal) (H:qab):D f a H=fnF PP cmp0 C lpC f a H:=by unfold D;rw[qtr h]
theorem callA_up {f:FuncId} {args:List AVal} {h:qab} {r:CR} (e:qai C h f args=some r):qai D h f args=some r:=q0s (fun _ _ _ _ e=>up e) e
theorem Ret.up {f:FuncId} {args:List AVal} {v:AVal} (h:Ret C f args v):Ret D f args v:=fun H=>callA_up (h H)
theorem readP_d (text:Str) (hT:text.length≤65536) {l ts':List PTok} {k:Nat} {p:PProg} (hs:qci text (text.length+1) 0=(some l,k)) (g:qbi C 37 [.ptr 0 0] [.box (pbox l 0)] (.agg p.cells) [.box (pbox ts' 0)]):
 Ret D 36 [.str text,.func 37 [] []] (.tuple [.agg p.cells,.agg qf0]):=
 Ret.mk rfl (by simp only[refs,qad];rw[p.norefs];rfl) (by rw[D_read _ rfl];exact readP_c text hT hs g)
theorem readE_d (text:Str) (hT:text.length≤65536) {l ts':List PTok} {k:Nat} {p:PExpr} (hs:qci text (text.length+1) 0=(some l,k)) (g:qbi C 49 [.ptr 0 0] [.box (pbox l 0)] (.agg p.cells) [.box (pbox ts' 0)]):
 Ret D 48 [.str text,.func 49 [] []] (.tuple [.agg p.cells,.agg qf0]):=
 Ret.mk rfl (by simp only[refs,qad];rw[p.norefs];rfl) (by rw[D_read _ rfl];exact readE_c text hT hs g)
theorem qtk (text:Str) (hT:text.length≤65536) {l ts':List PTok} {k n m:Nat} {p:PProg} (hs:qci text (text.length+1) 0=(some l,k)) (hl:TsOk l) (hp:qcw (pE n) m m l= .ok p ts') (hr:qgb false p=0) (sm:p.Small) (rg:p.Rng):
 Ret D 16 [.str text] (.tuple [.agg p.cells,.agg qf0]):=by
 have g:=readP_d text hT hs (prog_c (quv n) (qk6 n) hl hp)
 unfold qf0 at g ⊢
 have rc:=(right_c false p sm rg).up
 rw[hr]at rc
 have sp:∀(x0 x1:AVal),qar [x0,x1] 0 p.cells=some p.cells:=fun _ _=>qb7 (by rw[p.len];rfl)
 refine Ret.mk rfl (by simp only[refs,qad];rw[p.norefs];rfl) ?_
 rw[D_fn rfl Tryz.func16 rfl (by kernel_rfl) (m:=25) rfl];simp only[Z3,simprocAttr,Tryz.f16,fx_16,effs,g _,sp,p.ones,p.len,p.take,p.strip,rc _]
 try simp only[qb5,wc]
 rw[qf2 _ _ _ (by simp only[strip3,strip2,wa,wb,p.strip,refs,qad,p.norefs];rfl)]
 simp only[strip3,strip2,wa,wb,p.strip]
 rfl
theorem pexpr_ok (text:Str) (hT:text.length≤65536) {l ts':List PTok} {k n:Nat} {e:PExpr} (hs:qci text (text.length+1) 0=(some l,k)) (hl:TsOk l) (hp:pE n 0 1 l= .ok e ts') (h6:qc3 ts'=6):
 Ret D 19 [.str text] (.tuple [.agg e.cells,.agg qf0]):=by
 have g:=readE_d text hT hs (pexprF_c (quv n) hl hp h6)
 unfold qf0 at g ⊢
 have sp:∀(x0 x1 x2 x3 x4:AVal),qar [x0,x1,x2,x3,x4] 0 e.cells=some e.cells:=fun _ _ _ _ _=>qb7 (by rw[e.len];rfl)
 refine Ret.mk rfl (by simp only[refs,qad];rw[e.norefs];rfl) ?_
 rw[D_fn rfl Tryz.func19 rfl (by kernel_rfl) (m:=7) rfl];simp only[Z3,simprocAttr,Tryz.f19,fx_19,effs,g _,sp,e.ones,e.len,e.take]
 try simp only[qb5,wc]
 rw[qf2 _ _ _ (by simp only[strip3,strip2,wa,wb,e.strip,refs,qad,e.norefs];rfl)]
 simp only[strip3,strip2,wa,wb,e.strip]
 rfl
end Go.Ab
namespace Go.Ab
open Go Go.Ab.Tab
theorem pEq_at {R R':Rd} (h:R 0=R' 0) (m:Nat) (ts:List PTok):pEq m R ts=pEq m R' ts:=by simp only[pEq,h]
theorem pEqs_at {R R':Rd} (h:R 0=R' 0) (m:Nat):∀(n:Nat) (ts:List PTok),pEqs R m n ts=pEqs R' m n ts
 |0,_=>rfl
 |n+1,ts=>by simp only[pEqs,pEq_at h,pEqs_at h m n]
theorem q2h {R R':Rd} (h:R 0=R' 0):∀(n:Nat) (ts:List PTok),qfy R n ts=qfy R' n ts
 |0,_=>rfl
 |n+1,ts=>by simp only[qfy,h,q2h h n]
theorem pState_at {R R':Rd} (h:R 0=R' 0) (m:Nat) (ts:List PTok):qhf m R ts=qhf m R' ts:=by simp only[qhf,pEqs_at h,q2h h]
theorem qx1 {R R':Rd} (h:R 0=R' 0) (m:Nat):∀(n:Nat) (ts:List PTok),qcg R m n ts=qcg R' m n ts
 |0,_=>rfl
 |n+1,ts=>by simp only[qcg,pState_at h,qx1 h m n]
theorem qzz {R R':Rd} (h:R 0=R' 0) (m:Nat):∀(n:Nat) (ts:List PTok),qdj R m n ts=qdj R' m n ts
 |0,_=>rfl
 |n+1,ts=>by simp only[qdj,pEq_at h,qx1 h,qzz h m n]
theorem pNode_at {R R':Rd} (h:R 0=R' 0) (m:Nat) (ts:List PTok):qij m R ts=qij m R' ts:=by simp only[qij,qzz h]
theorem q2i {R R':Rd} (h:R 0=R' 0) (m:Nat):∀(n:Nat) (ts:List PTok),qcw R m n ts=qcw R' m n ts
 |0,_=>rfl
 |n+1,ts=>by simp only[qcw,pNode_at h,q2i h m n]
theorem progE_p {N m n:Nat} {ts ts':List PTok} {e:Int} (hT:TsOk ts) (h:qcw (pE N) m n ts= .bad e ts'):Pans C 37 [.ptr 0 0] [.box (pbox ts 0)] (qa9 e ts'):=
 prog_p (cap_hyp (quv N)) (badE N) (cap_len (qk6 N)) hT (by rw[←h];exact q2i (qtj (by omega)) m n ts)
def qjs:List AVal:=[.slice [] .free,.slice [] .free]
def fC (a b c:Int):List AVal:=[.int .i64 a,.int .i64 b,.int .i64 c]
theorem faultC_eq (e:Int) (ts:List PTok):∃b c,faultC e ts=fC e b c:=by
 cases ts with
 |nil=>exact⟨0,0,rfl⟩
 |cons t r=>exact⟨t.line,t.col,rfl⟩
theorem scanV_bad (text:Str) (h:65536<text.length∨(qci text (text.length+1) 0).1=none):∃a b c,a≠0∧qg4 text= .tuple [.slice [] .free,.agg (fC a b c)]:=by
 unfold qg4
 split
 ·exact⟨9,0,0,by decide,rfl⟩
 ·rename_i hl
  rcases h with h|h
  ·exact absurd h hl
  ·split
   ·rename_i l _ hs;rw[hs]at h;cases h
   ·exact⟨2,_,_,by decide,rfl⟩
theorem scan_any (text:Str) (hl:text.length≤qac):Ret C 73 [.str text] (qg4 text):=by
 by_cases h:65536<text.length
 ·exact scan_big text h hl
 ·exact qxz text (by omega)
theorem fnF_er {P:Program} {cmp} {call} {lp} {f:FuncId} {fn:Func} {c:Code} (hf:P.funcs[f]? =some fn) (hb:fn.body=some c) {args:List AVal} {h:qab} {X:Option CR} {m:Nat} (hm:fn.ntmps-args.length=m) {s5:St}
 (h1:qcn P cmp call lp c ⟨args++List.replicate m .undef,h,[]⟩=some (.ret,s5,none)) (h3:endF P fn h s5=X):fnF P cmp call lp f args h=X:=by
 subst hm
 rw[fnF_early hf hb (.inl rfl) h1];exact h3
theorem q5m (text:Str) (hl:text.length≤qac) {a b c:Int} (ha:a≠0) (hv:qg4 text= .tuple [.slice [] .free,.agg (fC a b c)]):
 fnF PP cmp0 C lpC 36 [.str text,.func 37 [] []] []=some (.ret (.tuple [.agg qjs,.agg (fC a b c)]) .same):=by
 have hsc:=scan_any text hl
 rw[hv]at hsc
 unfold fC qjs at*
 have n0:(a !=0)=true:=by simpa using ha
 apply fnF_er Tryz.func36 rfl (m:=22) rfl
 ·apply qfr (by kernel_rfl) (by kernel_rfl)
  ·simp only[Z3,simprocAttr,Tryz.f36,qif];rfl
  apply qfr (by kernel_rfl) (by kernel_rfl)
  ·simp only[Z3,simprocAttr,qif,hsc _];rfl
  apply codeF_ret (by kernel_rfl) (by kernel_rfl)
  ·simp only[Z3,simprocAttr,effs,n0,qif]
   rfl
 ·unfold endF
  rw[show resA PP _ _=some [.agg [.slice [] .full,.slice [] .full],.agg [.int .i64 a,.int .i64 b,.int .i64 c]]from ?_]
  ·simp only[wc]
   rw[qf2 _ _ _ (by simp only[qb5,strip3,strip2,wa,wb,refs,qad];rfl)]
   simp only[qb5,strip3,strip2,wa,wb]
   rfl
  ·simp only[Z3,simprocAttr,Tryz.f36,qif]
theorem qx2 (text:Str) {a b c:Int} (ha:a≠0) (g:fnF PP cmp0 C lpC 36 [.str text,.func 37 [] []] []=some (.ret (.tuple [.agg qjs,.agg (fC a b c)]) .same)):
 Ret D 16 [.str text] (.tuple [.agg qjs,.agg (fC a b c)]):=by
 have g:Ret D 36 [.str text,.func 37 [] []] (.tuple [.agg qjs,.agg (fC a b c)]):=Ret.mk rfl rfl (by rw[D_read _ rfl];exact g)
 unfold fC qjs at*
 have n0:(a !=0)=true:=by simpa using ha
 refine Ret.mk rfl rfl ?_
 rw[D_fn rfl Tryz.func16 rfl (by kernel_rfl) (m:=25) rfl];simp only[Z3,simprocAttr,Tryz.f16,fx_16,effs,g _,n0]
 try simp only[qb5,wc]
 rw[qf2 _ _ _ (by simp only[strip3,strip2,wa,wb,refs,qad];rfl)]
 simp only[strip3,strip2,wa,wb]
 rfl
theorem q2j (text:Str) (hT:text.length≤65536) {l ts':List PTok} {k n m:Nat} {p:PProg} (hs:qci text (text.length+1) 0=(some l,k)) (hl:TsOk l) (hp:qcw (pE n) m m l= .ok p ts') (hr:qgb false p≠0) (sm:p.Small) (rg:p.Rng):
 Ret D 16 [.str text] (.tuple [.agg qjs,.agg (fC (qgb false p) 0 0)]):=by
 have g:=readP_d text hT hs (prog_c (quv n) (qk6 n) hl hp)
 unfold qf0 at g
 unfold fC qjs
 have rc:=(right_c false p sm rg).up
 generalize qgb false p=a at*
 have n0:(a !=0)=true:=by simpa using hr
 have sp:∀(x0 x1:AVal),qar [x0,x1] 0 p.cells=some p.cells:=fun _ _=>qb7 (by rw[p.len];rfl)
 refine Ret.mk rfl rfl ?_
 rw[D_fn rfl Tryz.func16 rfl (by kernel_rfl) (m:=25) rfl];simp only[Z3,simprocAttr,Tryz.f16,fx_16,effs,g _,sp,p.ones,p.len,p.take,p.strip,rc _,n0]
 try simp only[qb5,wc]
 rw[qf2 _ _ _ (by simp only[strip3,strip2,wa,wb,refs,qad];rfl)]
 simp only[strip3,strip2,wa,wb]
 rfl
end Go.Ab
