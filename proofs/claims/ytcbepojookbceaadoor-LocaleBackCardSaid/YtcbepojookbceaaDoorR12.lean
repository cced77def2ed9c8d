/- The statement LocaleBack, whole: its row and its tied card. For every input the law returns true, and what was handed in reads behind the call as it read before. -/
import Derived.Test.YtcbepojookbceaaDoorCards
import Derived.Test.YtcbepojookbceaaDoorTie
import Derived.Test.YtcbepojookbceaaDoorLaidw
import Derived.Test.YtcbepojookbceaaDoorCard
import Derived.Test.YtcbepojookbceaaDoorCardLoc
import Derived.Test.YtcbepojookbceaaDoorL12
import Derived.OpenShut
namespace Go.Proofs.YtcbepojookbceaaDoor
set_option linter.all false
open Go.ChangeShapes Go.WideShapes Go.ChangeAt Go.RowKit Go.WideMaps Go.WideElems
open Go.ChangeMaps (setBlock shut_map_nil open_string shut_string keptBut_setBlock frozen?_setBlock heap_setBlock_same)

namespace back
set_option maxRecDepth 100000 in
theorem contract (H : Type) (enc : TypeId × Value → H) (W : World) (base : Nat) (args : Array Value) (ds gs : List (DataW H)) (before : List MemPlace)
    (hval : ∀ (j : Nat) t v, Tryd.f5.params[j]? = some t → args[j]? = some v → Value.okWide Tryd.prog W .any base t v)
    (hW : DataW.Whole enc Tryd.prog Tryd.f5.params.toList Rows.localeBackSpec.vars false W args.toList ds gs before) (hv : Vars W) (hm : MaxL W) :
    Calls Tryd.prog 5 args W fun e W' => ∃ v, e = .returned v ∧ Rows.localeBackSpec.post enc Tryd.prog Tryd.f5 false true false false W args v W' := by
  have hW' := hW
  obtain ⟨p, q, hA0, hV, rfl, hfz, hnd⟩ := hW
  have hA : DataW.TrodAll enc Tryd.prog W 0 (fun _ => true) true Tryd.f5.params.toList args.toList ds p := hA0
  rw [Tryd.params5] at hA hval
  obtain ⟨v0, vs0, d0, ds0, p0, q0, hargs, rfl, rfl, h0, r0⟩ := trodAll_cons hA
  obtain ⟨v1, vs1, d1, ds1, p1, q1, rfl, rfl, rfl, h1, r1⟩ := trodAll_cons r0
  obtain ⟨rfl, rfl, rfl⟩ := trodAll_nil r1
  obtain rfl : args = #[v0, v1] := by cases args; simp_all
  obtain ⟨rfl, rfl⟩ := trodVars_none hV
  obtain ⟨n0, rfl, rfl, hn0, c0⟩ := par_int (hval 0 3 v0 rfl rfl) h0
  obtain ⟨n1, s1, x1, rfl, rfl, hs1, hx1, c1⟩ := par_dec (hval 1 36 v1 rfl rfl) h1
  clear hA0
  simp only [List.append_nil] at hW'
  refine (l11_back_any n0 n1 s1 x1 W hv hm hn0 hs1 hx1).mono fun e W' ⟨he, hb⟩ => ?_
  subst he
  exact ⟨_, rfl, _, _, [], [], [], [], hW', trodAll_cons_mk (shut_bool Tryd.underlying4 _) trodAll_mk0, trodAll_cons_mk (c0 _ _ _ _) (trodAll_cons_mk (c1 _ _ _ _) trodAll_mk0), rfl, hb.frame _, fun h => by cases h⟩

theorem vars {W : World} (h : laidMetH Tryd.prog Rows.localeBackRow.laid W) : Vars W := by
  have h1 := laidMetH.filter (fun x => x.1 == "tabard/locale.names" || x.1 == "tabard/locale.signs") h
  rw [show Rows.localeBackRow.laid.filter (fun x => x.1 == "tabard/locale.names" || x.1 == "tabard/locale.signs") = [("tabard/locale.names", Rows.laid_tabard_locale_names), ("tabard/locale.signs", Rows.laid_tabard_locale_signs)] from by kernel_rfl] at h1
  exact vars_of_laid h1

theorem readsAt (os : Os) {H : Type} (enc : TypeId × Value → H) : ∃ places, DataW.whole enc Tryd.prog ((laidWorld os).forCall (fun _ _ => 0) ⟨#[], (#[.int .i64 0, .agg #[.bool false, .string ⟨#[]⟩, .int .i64 0]] : Array Value), []⟩).memory Tryd.f5.params.toList Rows.localeBackSpec.vars false (#[.int .i64 0, .agg #[.bool false, .string ⟨#[]⟩, .int .i64 0]] : Array Value).toList 8 = some ([.lit (.int .i64 0), .agg [.lit (.bool false), .lit (.string []), .lit (.int .i64 0)]], [], places) :=
  ⟨[], by kernel_rfl⟩
set_option maxRecDepth 100000 in
theorem laidMet (os : Os) (args : Array Value) : laidMet Tryd.prog Rows.localeBackRow.laid ((laidWorld os).forCall (fun _ _ => 0) ⟨#[], args, []⟩).memory :=
  laidMet_of_run' 8 (by kernel_rfl) (by kernel_rfl)

set_option maxRecDepth 100000 in
theorem lifted (os : Os) (started : os.Started) (H : Type) (enc : TypeId × Value → H) (F : Stop.Interp) :
    ReturnsInHanded {} Tryd.checked os 5 .any ((OpenSpec.ofChange Rows.localeBackSpec).preRow enc Tryd.prog Tryd.f5 Rows.localeBackRow.domain false Rows.localeBackRow.laid) (((OpenSpec.ofChange Rows.localeBackSpec).at F).post enc Tryd.prog Tryd.f5 false true false false) := by
  obtain ⟨places, hx⟩ := readsAt os enc
  refine returnsInHanded_of_row (C := Tryd.checked) (s := OpenSpec.ofChange Rows.localeBackSpec) own started (by kernel_rfl) Tryd.func5
    (witness_row_at (enc := enc) (C := Tryd.checked) false (laidWorld os) (#[.int .i64 0, .agg #[.bool false, .string ⟨#[]⟩, .int .i64 0]] : Array Value) rfl (by kernel_rfl) (by kernel_rfl) (by kernel_rfl)
      (OpenSpec.preRow_of_cond 8 hx (by kernel_rfl) (fun k hk => by cases hk) (by kernel_rfl) (laidMet os _))) ?_
  intro W base args ds gs before hval hW _ _ _ hL hS _
  exact contract H enc W base args ds gs before hval hW (vars hL) (maxL_of_shaped hS)

theorem said : Rows.LocaleBackSaid :=
  OpenClaim.holds_of_cond 5 Tryd.f5 rfl rfl rfl rfl rfl rfl rfl ⟨rfl, rfl, rfl, rfl, rfl⟩ rfl rfl rfl rfl rfl (by kernel_rfl) Tryd.func5 (by kernel_rfl)
    (of_decide_eq_true (by kernel_rfl)) (by unfold Func.isWrapper; first | (rw [if_pos (by decide +kernel)]; kernel_rfl) | (rw [if_neg (by decide +kernel)]; exact ⟨rfl, rfl⟩))
    (fun os started H enc _ F => by rw [OpenClaim.pre_eq_preRow]; exact lifted os started H enc F)

/-- No parameter wants a stand-in; what the card says of the looks is the program's own reckoning. -/
theorem plain (f : FuncId) (fn : Func) (hf : Tryd.pinned.checked.prog.funcNamed "tabard/tabardlaw11.LocaleBack" = some f) (hfn : Tryd.pinned.checked.prog.funcs[f]? = some fn) :
    true = Tryd.pinned.checked.prog.looks [] ∧ ∀ (j : Nat) t, fn.params[j]? = some t → Tryd.pinned.checked.prog.wantsStandIn t = false := by
  obtain rfl : f = 5 := Option.some.inj ((show Tryd.prog.funcNamed "tabard/tabardlaw11.LocaleBack" = some 5 by kernel_rfl).symm.trans hf) |>.symm
  obtain rfl : fn = Tryd.f5 := (Option.some.inj (Tryd.func5.symm.trans hfn)).symm
  refine ⟨by kernel_rfl, fun j t ht => ?_⟩
  rw [Tryd.params5] at ht
  have hm := Array.mem_of_getElem? ht
  simp only [List.mem_toArray, List.mem_cons, List.not_mem_nil, or_false] at hm
  rcases hm with rfl | rfl
  · exact (show Tryd.prog.wantsStandIn 3 = false by kernel_rfl)
  · exact (show Tryd.prog.wantsStandIn 36 = false by kernel_rfl)

theorem card : Rows.LocaleBackCardSaid :=
  Claim7.holds_tied_plain_at .later [] _ _ _ _ said (fun _ h => by cases h) (by kernel_rfl) (fun _ h => by cases h) localeBack_row_tie rfl ⟨rfl, rfl⟩ (by kernel_rfl) rfl plain (by kernel_rfl)
end back
end Go.Proofs.YtcbepojookbceaaDoor
