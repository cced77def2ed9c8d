/- The statement PatternJoins, whole: its row and its tied card. For every input the law returns true, and what was handed in reads behind the call as it read before. -/
import Derived.Test.YticodcecillciaaDoorCards
import Derived.Test.YticodcecillciaaDoorTie
import Derived.Test.YticodcecillciaaDoorZ1
import Derived.Test.YticodcecillciaaDoorZ17
import Derived.Test.YticodcecillciaaDoorZ21
import Derived.OpenShut
namespace Go.Proofs.YticodcecillciaaDoor
set_option linter.all false
open Go.ChangeShapes Go.WideShapes Go.ChangeAt Go.RowKit Go.WideMaps Go.WideElems
open Go.ChangeMaps (setBlock shut_map_nil open_string shut_string keptBut_setBlock frozen?_setBlock heap_setBlock_same)

namespace pjoins
set_option maxRecDepth 100000 in
theorem contract (H : Type) (enc : TypeId × Value → H) (W : World) (base : Nat) (args : Array Value) (ds gs : List (DataW H)) (before : List MemPlace)
    (hval : ∀ (j : Nat) t v, Tryd.f5.params[j]? = some t → args[j]? = some v → Value.okWide Tryd.prog W .any base t v)
    (hW : DataW.Whole enc Tryd.prog Tryd.f5.params.toList Rows.patternJoinsSpec.vars false W args.toList ds gs before) (hu : U8 W) (hm : MaxL W) :
    Calls Tryd.prog 5 args W fun e W' => ∃ v, e = .returned v ∧ Rows.patternJoinsSpec.post enc Tryd.prog Tryd.f5 false true false false W args v W' := by
  have hW' := hW
  obtain ⟨p, q, hA0, hV, rfl, hfz, hnd⟩ := hW
  have hA : DataW.TrodAll enc Tryd.prog W 0 (fun _ => true) true Tryd.f5.params.toList args.toList ds p := hA0
  rw [Tryd.params5] at hA hval
  obtain ⟨v0, vs0, d0, ds0, p0, q0, hargs, rfl, rfl, h0, r0⟩ := trodAll_cons hA
  obtain ⟨v1, vs1, d1, ds1, p1, q1, rfl, rfl, rfl, h1, r1⟩ := trodAll_cons r0
  obtain ⟨rfl, rfl, rfl⟩ := trodAll_nil r1
  obtain rfl : args = #[v0, v1] := by cases args; simp_all
  obtain ⟨rfl, rfl⟩ := trodVars_none hV
  have h0k := h0
  obtain ⟨s0, rfl, rfl, hs0⟩ := par_string (hval 0 9 v0 rfl rfl) h0
  have h1k := h1
  obtain ⟨s1, rfl, rfl, hs1⟩ := par_string (hval 1 9 v1 rfl rfl) h1
  clear hA0
  simp only [List.append_nil] at hW'
  have b0 := fun (W' : World) (hb : Below W.heap.size W W') => Below.trod laidOut (by kernel_rfl) (of_decide_eq_true (by kernel_rfl)) h0k hb (fun x hx => by first | (cases hx; done) | exact hW'.lt x (by simp [hx]))
  have b1 := fun (W' : World) (hb : Below W.heap.size W W') => Below.trod laidOut (by kernel_rfl) (of_decide_eq_true (by kernel_rfl)) h1k hb (fun x hx => by first | (cases hx; done) | exact hW'.lt x (by simp [hx]))
  refine (l13_joins_any s0 s1 W hu hm).mono fun e W' ⟨he, hb⟩ => ?_
  subst he
  exact ⟨_, rfl, _, _, _, [], _, [], hW', trodAll_cons_mk (shut_bool Tryd.underlying4 _) trodAll_mk0, trodAll_cons_mk (b0 _ hb) (trodAll_cons_mk (b1 _ hb) trodAll_mk0), rfl, hb.frame _, fun h => by cases h⟩

theorem u8 {W : World} (h : laidMetH Tryd.prog Rows.patternJoinsRow.laid W) : U8 W :=
  u8_of_reads (Lib.laidMet.reads (l := Rows.patternJoinsRow.laid) h (.tail _ (.head _))) (Lib.laidMet.reads (l := Rows.patternJoinsRow.laid) h (.head _))

theorem readsAt (os : Os) {H : Type} (enc : TypeId × Value → H) : ∃ places, DataW.whole enc Tryd.prog ((laidWorld os).forCall (fun _ _ => 0) ⟨#[], (#[.string ⟨#[]⟩, .string ⟨#[]⟩] : Array Value), []⟩).memory Tryd.f5.params.toList Rows.patternJoinsSpec.vars false (#[.string ⟨#[]⟩, .string ⟨#[]⟩] : Array Value).toList 8 = some ([.lit (.string []), .lit (.string [])], [], places) :=
  ⟨[], by kernel_rfl⟩
set_option maxRecDepth 100000 in
theorem laidMet (os : Os) (args : Array Value) : laidMet Tryd.prog Rows.patternJoinsRow.laid ((laidWorld os).forCall (fun _ _ => 0) ⟨#[], args, []⟩).memory :=
  laidMet_of_run' 8 (by kernel_rfl) (by kernel_rfl)

set_option maxRecDepth 100000 in
theorem lifted (os : Os) (started : os.Started) (H : Type) (enc : TypeId × Value → H) (F : Stop.Interp) :
    ReturnsInHanded {} Tryd.checked os 5 .any ((OpenSpec.ofChange Rows.patternJoinsSpec).preRow enc Tryd.prog Tryd.f5 Rows.patternJoinsRow.domain false Rows.patternJoinsRow.laid) (((OpenSpec.ofChange Rows.patternJoinsSpec).at F).post enc Tryd.prog Tryd.f5 false true false false) := by
  obtain ⟨places, hx⟩ := readsAt os enc
  refine returnsInHanded_of_row (C := Tryd.checked) (s := OpenSpec.ofChange Rows.patternJoinsSpec) own started (by kernel_rfl) Tryd.func5
    (witness_row_at (enc := enc) (C := Tryd.checked) false (laidWorld os) (#[.string ⟨#[]⟩, .string ⟨#[]⟩] : Array Value) rfl (by kernel_rfl) (by kernel_rfl) (by kernel_rfl)
      (OpenSpec.preRow_of_cond 8 hx (by kernel_rfl) (fun k hk => by cases hk) (by kernel_rfl) (laidMet os _))) ?_
  intro W base args ds gs before hval hW _ _ _ hL hS _
  exact contract H enc W base args ds gs before hval hW (u8 hL) (maxL_of_shaped hS)

theorem named : Tryd.pinned.checked.prog.funcNamed Rows.patternJoinsRow.func = some 5 := by kernel_rfl
theorem facts : joinedFacts Tryd.pinned.checked.prog 5 Tryd.f5 (OpenSpec.ofChange Rows.patternJoinsSpec).bare Rows.patternJoinsRow = true := by kernel_rfl
theorem isInst : Tryd.f5.isInstance Tryd.pinned.checked.prog Rows.patternJoinsRow.origin Rows.patternJoinsRow.targs := of_decide_eq_true (by kernel_rfl)
theorem isWrap : Tryd.f5.isWrapper Tryd.pinned.checked.prog Rows.patternJoinsRow.wrapper Rows.patternJoinsRow.mainSum := by
  unfold Func.isWrapper; first | (rw [if_pos (by decide +kernel)]; kernel_rfl) | (rw [if_neg (by decide +kernel)]; exact ⟨rfl, rfl⟩)
theorem said : Rows.PatternJoinsSaid :=
  OpenClaim.holds_of_cond 5 Tryd.f5 rfl rfl rfl rfl rfl rfl rfl ⟨rfl, rfl, rfl, rfl, rfl⟩ rfl rfl rfl rfl rfl named Tryd.func5 facts isInst isWrap
    (fun os started H enc _ F => by rw [OpenClaim.pre_eq_preRow]; exact lifted os started H enc F)

/-- No parameter wants a stand-in; what the card says of the looks is the program's own reckoning. -/
theorem plain (f : FuncId) (fn : Func) (hf : Tryd.pinned.checked.prog.funcNamed "tabard/tabardlaw13.PatternJoins" = some f) (hfn : Tryd.pinned.checked.prog.funcs[f]? = some fn) :
    true = Tryd.pinned.checked.prog.looks [] ∧ ∀ (j : Nat) t, fn.params[j]? = some t → Tryd.pinned.checked.prog.wantsStandIn t = false := by
  obtain rfl : f = 5 := Option.some.inj ((show Tryd.prog.funcNamed "tabard/tabardlaw13.PatternJoins" = some 5 from named).symm.trans hf) |>.symm
  obtain rfl : fn = Tryd.f5 := (Option.some.inj (Tryd.func5.symm.trans hfn)).symm
  refine ⟨by kernel_rfl, fun j t ht => ?_⟩
  rw [Tryd.params5] at ht
  have hm := Array.mem_of_getElem? ht
  simp only [List.mem_toArray, List.mem_cons, List.not_mem_nil, or_false] at hm
  rcases hm with rfl | rfl
  · exact (show Tryd.prog.wantsStandIn 9 = false by kernel_rfl)
  · exact (show Tryd.prog.wantsStandIn 9 = false by kernel_rfl)

theorem card : Rows.PatternJoinsCardSaid :=
  Claim7.holds_tied_plain_at .later [] _ _ _ _ said (fun _ h => by cases h) (by kernel_rfl) (fun _ h => by cases h) patternJoins_row_tie rfl ⟨rfl, rfl⟩ (by kernel_rfl) rfl plain (by kernel_rfl)
end pjoins
end Go.Proofs.YticodcecillciaaDoor
