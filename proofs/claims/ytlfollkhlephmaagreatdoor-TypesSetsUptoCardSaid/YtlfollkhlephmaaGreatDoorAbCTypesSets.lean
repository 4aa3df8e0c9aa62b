/- The law TypesSets, wherever its arguments' readings are of bulk at most 1048576: true. -/
import Derived.Test.YtlfollkhlephmaaGreatDoorCards
import Derived.Test.YtlfollkhlephmaaGreatDoorTie
import Derived.WalkKit
import Derived.ProofKit
import Derived.OpenShut
import Derived.Deep.DeepHandedRow
import Derived.Test.YtlfollkhlephmaaGreatDoorAbBase
import Derived.Test.YtlfollkhlephmaaGreatDoorAbPostL
import Derived.Test.YtlfollkhlephmaaGreatDoorAbBox
set_option linter.unusedSimpArgs false
set_option linter.unusedVariables false
set_option maxRecDepth 100000
set_option maxHeartbeats 4000000
open Int renaming le_trans→wa
namespace Go.Proofs.YtlfollkhlephmaaGreatDoor
open Go.ChangeShapes Go.WideShapes Go.ChangeAt Go.RowKit Go.Ab
theorem own:ownKnob Tryz.prog.godebug=Option.none:=by kernel_rfl
theorem bulk_ok {H:Type}:Bulk (H:=H) Rows.uptoBulk Rows.uptoBulkAll where
 str s:=by simp[Rows.uptoBulk]
 lit l:=by cases l<;>simp[Rows.uptoBulk]
 nil:=by simp[Rows.uptoBulk]
 slice es sp:=by simp[Rows.uptoBulk]
 agg ps:=by simp[Rows.uptoBulk]
 nilA:=by simp[Rows.uptoBulkAll]
 consA d r:=by simp[Rows.uptoBulkAll]
abbrev rngS:ByteArray:={ data:= #[118,97,108,117,101,32,111,117,116,32,111,102,32,114,97,110,103,101] }
abbrev synS:ByteArray:={ data:= #[105,110,118,97,108,105,100,32,115,121,110,116,97,120] }
noncomputable def low:Nat:=(World.holding Tryz.prog default ⟨#[], #[],[]⟩).heap.size
noncomputable def laidWorld (os:Os):World:=
 let w0:=World.holding Tryz.prog os ⟨#[.cells #[.string synS] 285, .cells #[.string rngS] 285], #[],[]⟩
 { w0 with heap:=((((w0.heap.modify 3 (lay1 (litsOf Rows.laid_math_bits_deBruijn32tab))).modify 4 (lay1 (litsOf Rows.laid_math_bits_deBruijn64tab))).modify 2 (lay1 (litsOf Rows.laid_internal_strconv_uint64pow10))).modify 0 (lay1 #[.iface 283 (.pointer (some ⟨low,0,none⟩))])).modify 1 (lay1 #[.iface 283 (.pointer (some ⟨low+1,0,none⟩))]) }
theorem pow_tab {W:World} (h:laidMet Tryz.prog Rows.typesSetsUptoRow.laid W):∃g T fl,Tryz.prog.globalNamed "internal/strconv.uint64pow10" =some g∧F1 W g g=some (.cells (Lib.pow10Tab.map fun z=>Value.int .u64 z).toArray T fl):=
 qn7 (by kernel_rfl) h (by
  have:Rows.laid_internal_strconv_uint64pow10 (H:=Unit)=Lib.tabData .u64 Lib.pow10Tab:=by kernel_rfl
  rw[←this]
  simp[Rows.typesSetsUptoRow])
theorem err_tab {W:World} (h:laidMet Tryz.prog Rows.typesSetsUptoRow.laid W):∃g tp p T fl,Tryz.prog.globalNamed "strconv.ErrRange" =some g∧W.heap[g]? =some (.cells #[.iface tp p] T fl):=
 qph (name:= "strconv.ErrRange") (by kernel_rfl) h (by
  have:("strconv.ErrRange",Rows.laid_strconv_ErrRange (H:=Unit))∈Rows.typesSetsUptoRow.laid:=by simp[Rows.typesSetsUptoRow]
  exact this)
namespace typesSets
theorem contract (H:Type) (enc:TypeId×Value→H) (W:World) (base:Nat) (args:Array Value) (ds gs:List (DataW H)) (before:List MemPlace)
 (hval:∀(j:Nat) t v,Tryz.f3.params[j]? =some t→args[j]? =some v→Value.okWide Tryz.prog W .any base t v)
 (hW:DataW.Whole enc Tryz.prog Tryz.f3.params.toList Rows.typesSetsSpec.vars false W args.toList ds gs before) (hb:Rows.uptoSmall H (ds++gs)=true) (hL:laidMet Tryz.prog Rows.typesSetsUptoRow.laid W):
 Calls Tryz.prog 3 args W fun e W'=>∃v,e= .returned v∧Rows.typesSetsSpec.post enc Tryz.prog Tryz.f3 false true false false W args v W':=by
 have hW':=hW
 obtain⟨p,q,hA0,hV,rfl,hfz,hnd⟩:=hW
 have hA:DataW.TrodAll enc Tryz.prog W 0 (fun _=>true) true Tryz.f3.params.toList args.toList ds p:=hA0
 rw[Tryz.params3]at hA hval
 obtain⟨v0,vs,d0,ds0,p0,q0,hargs,rfl,rfl,⟨n0,h0⟩,hA⟩:=trodAll_cons hA
 obtain⟨v1,vs,d1,ds0,p1,q0,rfl,rfl,rfl,⟨n1,h1⟩,hA⟩:=trodAll_cons hA
 obtain⟨rfl,rfl,rfl⟩:=trodAll_nil hA
 obtain rfl:args= #[v0,v1]:=by cases args;simp_all
 obtain⟨rfl,rfl⟩:=trodVars_none hV
 obtain⟨g,T,fl,hg,hF⟩:=pow_tab hL
 obtain⟨g2,tp,pp,T2,fl2,hg2,hF2⟩:=err_tab hL
 have k:WR Tryz.prog (S0 W (F2 W g g2)) [] W:=S0_wr (F2_ok W g g2) ⟨⟨g,T,fl,hg,F2_l hF⟩,g2,tp,pp,T2,fl2,hg2,F2_r hF2⟩
 obtain⟨s0,rfl⟩:=okWide_int Tryz.underlying22 (hval 0 _ _ rfl rfl)
 obtain⟨x0,ve0,r0,be0⟩:=rd_int (F:=F2 W g g2) bulk_ok n0 Tryz.underlying22 n0 (Nat.le_refl _) _ _ ⟨_,h0⟩
 have be0:1≤_:=be0
 obtain⟨a1,l1,m1,rfl⟩:=okWide_slice Tryz.underlying23 (hval 1 _ _ rfl rfl)
 obtain⟨x1,ve1,r1,be1⟩:=rd_slice (F:=F2 W g g2) (cells:=fun z:Int=>[.int .i64 z]) (sz:=1) bulk_ok Tryz.underlying23 (by kernel_rfl) (by decide) (fun _=>rfl) (rd_int bulk_ok n1 Tryz.underlying22) n1 (Nat.le_succ _) _ _ ⟨_,h1⟩
 have be1:qb6 (fun _=>1) x1+1≤_:=be1
 rw[sum1]at be1
 have hbb:1+(x1.length+1)≤1048576:=by
  simp only[Rows.uptoSmall,decide_eq_true_eq,List.append_nil,Rows.uptoBulkAll]at hb
  omega
 have hret:=tset_c x0 x1 (wa (by decide) r0.1) (wa r0.2 (by decide)) (by unfold qa9;omega)
 refine qa0 ((callD_ok 3 _ _ _ hret).2 (S0 W (F2 W g g2)) W #[.int .i64 s0, .slice a1 l1 m1] k (.cons ve0.head (.cons ve1.head (.nil _)))) ?_
 ·rintro en W' ⟨v,S',rfl,st,hv⟩
  cases hv
  refine⟨_,rfl,law_post (by kernel_rfl) (by kernel_rfl) rfl Tryz.underlying4 rfl hW' ⟨rfl,rfl,rfl⟩ (qm2 st)⟩
theorem laid_met (os:Os):laidMet Tryz.prog Rows.typesSetsUptoRow.laid ((laidWorld os).forCall (fun _ _=>0) ⟨#[], #[.int .i64 0, .slice Option.none 0 0],[]⟩).memory:=
 laidMet_of_run' 8 (by kernel_rfl) (by kernel_rfl)
theorem reads (os:Os) {H:Type} (enc:TypeId×Value→H):∃ds places,DataW.whole enc Tryz.prog ((laidWorld os).forCall (fun _ _=>0) ⟨#[], #[.int .i64 0, .slice Option.none 0 0],[]⟩).memory Tryz.f3.params.toList Rows.typesSetsSpec.vars false #[.int .i64 0, .slice Option.none 0 0].toList 8=some (ds,[],places)∧(decide (Rows.uptoBulkAll (ds++[])≤1048576))=true:=
 ⟨[.lit (.int .i64 0), .nil],[],by kernel_rfl,by kernel_rfl⟩
theorem lifted (os:Os) (started:os.Started) (H:Type) (enc:TypeId×Value→H) (F:Stop.Interp):
 ReturnsInHanded {} Tryz.checked os 3 .any ((Rows.OpenSpec.upto Rows.typesSetsSpec).preRow enc Tryz.prog Tryz.f3 Rows.typesSetsUptoRow.domain false Rows.typesSetsUptoRow.laid) (((Rows.OpenSpec.upto Rows.typesSetsSpec).at F).post enc Tryz.prog Tryz.f3 false true false false):=by
 obtain⟨ds,places,hx,hsm⟩:=reads os enc
 refine returnsInHanded_of_row (C:=Tryz.checked) (s:=Rows.OpenSpec.upto Rows.typesSetsSpec) own started (by kernel_rfl) Tryz.func3
  (witness_row_at (enc:=enc) (C:=Tryz.checked) false (laidWorld os) #[.int .i64 0, .slice Option.none 0 0] rfl (by kernel_rfl) (by kernel_rfl) (by kernel_rfl)
   (OpenSpec.preRow_of_cond 8 hx (by kernel_rfl) (fun k hk=>by cases hk;exact hsm) (by kernel_rfl) (laid_met os))) ?_
 intro W base args ds gs before hval hW _ hb _ hL _ _
 exact contract H enc W base args ds gs before hval hW (hb _ rfl) hL
theorem k10:(Rows.typesSetsUptoRow.inPlace==Tryz.pinned.checked.prog.inPlace 3)=true:=by kernel_rfl
theorem k11:(Rows.typesSetsUptoRow.unfollowed==Tryz.pinned.checked.prog.unfollowed 3)=true:=by kernel_rfl
theorem k12:(Rows.typesSetsUptoRow.recurses==Tryz.pinned.checked.prog.recurses 3)=true:=by kernel_rfl
theorem k13:(Rows.typesSetsUptoRow.named==Tryz.pinned.checked.prog.varsNamed 3)=true:=by kernel_rfl
theorem closed:joinedFacts Tryz.pinned.checked.prog 3 Tryz.f3 (Rows.OpenSpec.upto Rows.typesSetsSpec).bare Rows.typesSetsUptoRow=true:=by
 unfold joinedFacts
 rw[k10,k11,k12,k13]
 kernel_rfl
theorem said:Rows.TypesSetsUptoSaid:=
 OpenClaim.holds_of_cond 3 Tryz.f3 rfl rfl rfl rfl rfl rfl rfl ⟨rfl,rfl,rfl,rfl,rfl⟩ rfl rfl rfl rfl rfl (by kernel_rfl) Tryz.func3 closed
  (of_decide_eq_true (by kernel_rfl)) (by unfold Func.isWrapper;first|(rw[if_pos (by decide+kernel)];kernel_rfl)|(rw[if_neg (by decide+kernel)];exact⟨rfl,rfl⟩))
  (fun os started H enc _ F=>by rw[OpenClaim.pre_eq_preRow];exact lifted os started H enc F)
theorem plain (f:FuncId) (fn:Func) (hf:Tryz.pinned.checked.prog.funcNamed "pendule/pendulelaw08.TypesSets" =some f) (hfn:Tryz.pinned.checked.prog.funcs[f]? =some fn):
 true=Tryz.pinned.checked.prog.looks []∧∀(j:Nat) t,fn.params[j]? =some t→Tryz.pinned.checked.prog.wantsStandIn t=false:=by
 obtain rfl:f=3:=Option.some.inj ((show Tryz.prog.funcNamed "pendule/pendulelaw08.TypesSets" =some 3 by kernel_rfl).symm.trans hf)|>.symm
 obtain rfl:fn=Tryz.f3:=(Option.some.inj (Tryz.func3.symm.trans hfn)).symm
 refine⟨by kernel_rfl,fun j t ht=> ?_⟩
 rw[Tryz.params3]at ht
 have hall:(#[22,23].toList.all fun t=> !Tryz.prog.wantsStandIn t)=true:=by kernel_rfl
 have:=List.all_eq_true.1 hall t (by have:=Array.mem_of_getElem? ht;simpa using this)
 have e:Tryz.prog.wantsStandIn t=false:=by simpa using this
 exact e
theorem hw1:Rows.typesSetsUptoRow.wfByText (Rows.OpenSpec.upto Rows.typesSetsSpec)=true:=by kernel_rfl
theorem hg1:false=Rows.typesSetsUptoRow.goesBy Tryz.pinned.checked.prog:=by kernel_rfl
theorem card:Rows.TypesSetsUptoCardSaid:=
 Claim7.holds_tied_plain_at .later [] _ _ _ _ said (fun _ h=>by cases h) hw1 (fun _ h=>by cases h) typesSetsUpto_row_tie rfl ⟨rfl,rfl⟩ (by kernel_rfl) rfl plain hg1
end typesSets
end Go.Proofs.YtlfollkhlephmaaGreatDoor
