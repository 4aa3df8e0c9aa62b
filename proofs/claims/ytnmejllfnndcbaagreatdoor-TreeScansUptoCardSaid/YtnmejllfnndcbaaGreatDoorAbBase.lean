/- The seat's program, what stands for the library's two functions, and what is asked of the program. -/
import Derived.Test.YtnmejllfnndcbaaGreatDoorChecked
import Derived.Test.YtnmejllfnndcbaaGreatDoorAbExt
import Derived.Test.YtnmejllfnndcbaaGreatDoorAbExtP
import Derived.Test.YtnmejllfnndcbaaGreatDoorAbSims
import Derived.Test.YtnmejllfnndcbaaGreatDoorAbFx
import Derived.Test.YtnmejllfnndcbaaGreatDoorAbShelf
set_option linter.unusedSimpArgs false
set_option linter.unusedVariables false
namespace Go.Ab
open Go Go.Proofs
noncomputable abbrev PP := Go.Proofs.Tryz.prog
abbrev cmp0 : List TypeId := [43]
instance tabs : Tabs PP := ⟨fun F => (∃ g T fl, PP.globalNamed "internal/strconv.uint64pow10" = some g ∧ F g = some (.cells (Lib.pow10Tab.map fun z => Value.int .u64 z).toArray T fl)) ∧
  ∃ g tp p T fl, PP.globalNamed "strconv.ErrRange" = some g ∧ F g = some (.cells #[.iface tp p] T fl)⟩
abbrev errT : TypeId := 180
def ext0 : Ext := fun f => if f = 54 then some extJoin else if f = 46 then some extInt else if f = 117 then some (extParse errT) else none
noncomputable def C : Call := evC PP cmp0 ext0
theorem ext_join : ext0 54 = some extJoin := rfl
theorem ext_int : ext0 46 = some extInt := rfl
theorem ext_parse : ext0 117 = some (extParse errT) := rfl
theorem C_fn {f : FuncId} {fn : Func} {c : Code} (hx : ext0 f = none) (hf : PP.funcs[f]? = some fn) (hb : fn.body = some c) (hd : drawnOk c = true) {a : List AVal} {h : AHeap} {m : Nat} (hm : fn.ntmps - a.length = m) :
    C f a h = fin PP h.length fn.results.toList (codeB PP cmp0 C lpC c ⟨a ++ List.replicate m .undef, h, []⟩) := by
  rw [← hm]
  exact evC_fn hx hf hb hd a h
theorem C_of {n : Nat} {f : FuncId} {a : List AVal} {h : AHeap} {r : CR} (e : evN PP cmp0 ext0 n f a h = some r) : C f a h = some r := evC_of e
end Go.Ab
/- What is asked of the program holds. -/
namespace Go.Ab
open Go Go.Proofs Go.RowKit
theorem tab_ok (S : Sh) (h : AHeap) (w : World) (k : WR PP S h w) : Lib.TabIs PP w "internal/strconv.uint64pow10" .u64 Lib.pow10Tab := by
  obtain ⟨⟨g, T, fl, hg, hF⟩, _⟩ := k.laid
  have := (k.frz g _ hF).1
  unfold Lib.TabIs World.var?
  rw [hg, Option.bind_some, this]
theorem rng_ok (S : Sh) (h : AHeap) (w : World) (k : WR PP S h w) : ∃ tp p, w.var? PP "strconv.ErrRange" = some #[.iface tp p] := by
  obtain ⟨_, g, tp, p, T, fl, hg, hF⟩ := k.laid
  have := (k.frz g _ hF).1
  refine ⟨tp, p, ?_⟩
  unfold World.var?
  rw [hg, Option.bind_some, this]
theorem prog_ok : ProgOk PP cmp0 where
  mix := by kernel_rfl
  cmp := by
    intro t ht
    simp only [List.mem_cons, List.not_mem_nil, or_false] at ht
    subst ht
    kernel_rfl
  name := by
    have h : (PP.funcs.all fun fn => !(fn.name == "runtime.NumGoroutine")) = true := by kernel_rfl
    intro f fn hf
    obtain ⟨hlt, e⟩ := Array.getElem?_eq_some_iff.1 hf
    have := (Array.all_eq_true.1 h) f hlt
    rw [e] at this
    simpa using this
theorem ext_ok : ExtOk PP ext0 where
  call := by
    intro f g hg args h r e
    unfold ext0 at hg
    split at hg
    · rename_i hf
      subst hf
      cases hg
      exact ⟨⟨_, Go.Proofs.Tryz.func54, by kernel_rfl⟩, fun S w vs k ha => join_ok Tryz.strings_Join_none Tryz.strings_Join args h r e S w vs k ha⟩
    · split at hg
      · rename_i hf
        subst hf
        cases hg
        exact ⟨⟨_, Go.Proofs.Tryz.func46, by kernel_rfl⟩, fun S w vs k ha => int_ok tab_ok Tryz.strconv_FormatInt_10 args h r e S w vs k ha⟩
      · split at hg
        · rename_i hf
          subst hf
          cases hg
          refine ⟨⟨_, Go.Proofs.Tryz.func117, by kernel_rfl⟩, fun S w vs k ha => parse_ok rng_ok ?_ ?_ args h r e S w vs k ha⟩
          · intro s hs v hv w
            refine calls_mono (Tryz.strconv_ParseInt_10_at64_ok s hs v hv w) ?_
            rintro e w' ⟨rfl, rfl | ⟨t, rfl⟩⟩
            · exact ⟨rfl, Below.refl _ _⟩
            · exact ⟨rfl, Lib.bytesWorld_below _ _ _⟩
          · intro s hs hv tp p w hvar
            refine calls_mono (Tryz.strconv_ParseInt_10_at64_range_var s hs hv tp p w hvar) ?_
            rintro e w' ⟨N, rfl, _, _, hb⟩
            exact ⟨N, rfl, hb⟩
        · cases hg
  keep := by
    intro f g hg args h r e
    unfold ext0 at hg
    split at hg
    · cases hg; exact ext_keep_join args h r e
    · split at hg
      · cases hg; exact ext_keep_int args h r e
      · split at hg
        · cases hg; exact ext_keep_parse errT args h r e
        · cases hg
theorem call_ok : CallOk PP C := evC_ok prog_ok ext_ok
end Go.Ab
