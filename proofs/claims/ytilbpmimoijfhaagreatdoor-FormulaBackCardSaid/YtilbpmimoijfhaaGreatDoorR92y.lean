/- The statement FormulaBack, whole: its row and its tied card. For every input the law returns true, and what was handed in reads behind the call as it read before. -/
import Derived.Test.YtilbpmimoijfhaaGreatDoorCards
import Derived.Test.YtilbpmimoijfhaaGreatDoorTie
import Derived.Test.YtilbpmimoijfhaaGreatDoorY49
import Derived.Test.YtilbpmimoijfhaaGreatDoorY33
namespace Go.Proofs.YtilbpmimoijfhaaGreatDoor
set_option linter.all false
open Go.ChangeShapes Go.WideShapes Go.ChangeAt Go.RowKit Go.WideMaps Go.WideElems
open Go.ChangeMaps (setBlock shut_map_nil open_string shut_string keptBut_setBlock frozen?_setBlock heap_setBlock_same)

namespace back
set_option maxRecDepth 100000 in
theorem contract (H : Type) (enc : TypeId × Value → H) (W : World) (base : Nat) (args : Array Value) (ds gs : List (DataW H)) (before : List MemPlace)
    (hval : ∀ (j : Nat) t v, Tryz.f5.params[j]? = some t → args[j]? = some v → Value.okWide Tryz.prog W .any base t v)
    (hW : DataW.Whole enc Tryz.prog Tryz.f5.params.toList Rows.formulaBackSpec.vars false W args.toList ds gs before) (hs : Bs W) (hv : Vars W) :
    Calls Tryz.prog 5 args W fun e W' => ∃ v, e = .returned v ∧ Rows.formulaBackSpec.post enc Tryz.prog Tryz.f5 false true false false W args v W' := by
  have hW' := hW
  obtain ⟨p, q, hA0, hV, rfl, hfz, hnd⟩ := hW
  have hA : DataW.TrodAll enc Tryz.prog W 0 (fun _ => true) true Tryz.f5.params.toList args.toList ds p := hA0
  rw [Tryz.params5] at hA hval
  obtain ⟨v0, vs0, d0, ds0, p0, q0, hargs, rfl, rfl, h0, r0⟩ := trodAll_cons hA
  obtain ⟨v1, vs1, d1, ds1, p1, q1, rfl, rfl, rfl, h1, r1⟩ := trodAll_cons r0
  obtain ⟨v2, vs2, d2, ds2, p2, q2, rfl, rfl, rfl, h2, r2⟩ := trodAll_cons r1
  obtain ⟨rfl, rfl, rfl⟩ := trodAll_nil r2
  obtain rfl : args = #[v0, v1, v2] := by cases args; simp_all
  obtain ⟨rfl, rfl⟩ := trodVars_none hV
  have h0k := h0
  obtain ⟨u0, l0, rfl, hs0⟩ := yeH (hval 0 27 v0 rfl rfl) h0
  have h1k := h1
  obtain ⟨s1, rfl, rfl, hs1⟩ := ykJ (hval 1 9 v1 rfl rfl) h1
  have h2k := h2
  obtain ⟨n2, rfl, rfl, hn2⟩ := XB (hval 2 3 v2 rfl rfl) h2
  clear hA0
  simp only [List.append_nil] at hW'
  have b0 := fun (W' : World) (hb : Below W.heap.size W W') => Below.trod yS (by kernel_rfl) (of_decide_eq_true (by kernel_rfl)) h0k hb (fun x hx => by first | (cases hx; done) | exact hW'.lt x (by simp [hx]))
  have b1 := fun (W' : World) (hb : Below W.heap.size W W') => Below.trod yS (by kernel_rfl) (of_decide_eq_true (by kernel_rfl)) h1k hb (fun x hx => by first | (cases hx; done) | exact hW'.lt x (by simp [hx]))
  have b2 := fun (W' : World) (hb : Below W.heap.size W W') => Below.trod yS (by kernel_rfl) (of_decide_eq_true (by kernel_rfl)) h2k hb (fun x hx => by first | (cases hx; done) | exact hW'.lt x (by simp [hx]))
  refine (yoC l0 u0 s1 n2 hs1 hn2 W hs0.1 hs0.2 hs hv).mono fun e W' ⟨he, hb⟩ => ?_
  subst he
  exact ⟨_, rfl, _, _, _, [], _, [], hW', trodAll_cons_mk (shut_bool Tryz.underlying4 _) trodAll_mk0, trodAll_cons_mk (b0 _ hb) (trodAll_cons_mk (b1 _ hb) (trodAll_cons_mk (b2 _ hb) trodAll_mk0)), rfl, hb.frame _, fun h => by cases h⟩

theorem bs {W : World} (h : laidMetH Tryz.prog Rows.formulaBackRow.laid W) (hS : W.ShapedOpen Tryz.prog) : Bs W := by
  have h1 := laidMetH.filter (fun x => x.1 == "internal/strconv.uint64pow10") h
  rw [show Rows.formulaBackRow.laid.filter (fun x => x.1 == "internal/strconv.uint64pow10") = [("internal/strconv.uint64pow10", Rows.laid_internal_strconv_uint64pow10)] from by kernel_rfl] at h1
  have h2 := laidMetH.filter (fun x => x.1 == "strconv.ErrRange") h
  rw [show Rows.formulaBackRow.laid.filter (fun x => x.1 == "strconv.ErrRange") = [("strconv.ErrRange", Rows.laid_strconv_ErrRange)] from by kernel_rfl] at h2
  exact ycI h1 (Lib.laidMet.reads (l := [("strconv.ErrRange", Rows.laid_strconv_ErrRange)]) h2 (.head _)) hS
theorem vars {W : World} (h : laidMetH Tryz.prog Rows.formulaBackRow.laid W) : Vars W := by
  have h1 := laidMetH.filter (fun x => x.1 == "tabard/locale.names" || x.1 == "tabard/locale.signs") h
  rw [show Rows.formulaBackRow.laid.filter (fun x => x.1 == "tabard/locale.names" || x.1 == "tabard/locale.signs") = [("tabard/locale.names", Rows.laid_tabard_locale_names), ("tabard/locale.signs", Rows.laid_tabard_locale_signs)] from by kernel_rfl] at h1
  exact yc3 h1

theorem readsAt (os : Os) {H : Type} (enc : TypeId × Value → H) : ∃ places, DataW.whole enc Tryz.prog ((laidWorld os).forCall (fun _ _ => 0) ⟨#[], (#[.agg #[.int .i64 0, .int .u64 0, .string ⟨#[]⟩, .bool false, .int .i64 0, .int .i64 0, .int .i64 0, .bool false, .bool false, .int .i64 0, .int .i64 0, .bool false, .bool false, .slice none 0 0], .string ⟨#[]⟩, .int .i64 0] : Array Value), []⟩).memory Tryz.f5.params.toList Rows.formulaBackSpec.vars false (#[.agg #[.int .i64 0, .int .u64 0, .string ⟨#[]⟩, .bool false, .int .i64 0, .int .i64 0, .int .i64 0, .bool false, .bool false, .int .i64 0, .int .i64 0, .bool false, .bool false, .slice none 0 0], .string ⟨#[]⟩, .int .i64 0] : Array Value).toList 8 = some ([.agg [.lit (.int .i64 0), .lit (.int .u64 0), .lit (.string []), .lit (.bool false), .lit (.int .i64 0), .agg [.lit (.int .i64 0), .lit (.int .i64 0), .lit (.bool false), .lit (.bool false)], .agg [.lit (.int .i64 0), .lit (.int .i64 0), .lit (.bool false), .lit (.bool false)], .nil], .lit (.string []), .lit (.int .i64 0)], [], places) :=
  ⟨[], by kernel_rfl⟩
set_option maxRecDepth 100000 in
theorem laidMet (os : Os) (args : Array Value) : laidMet Tryz.prog Rows.formulaBackRow.laid ((laidWorld os).forCall (fun _ _ => 0) ⟨#[], args, []⟩).memory :=
  laidMet_of_run' 8 (by kernel_rfl) (by kernel_rfl)

set_option maxRecDepth 100000 in
theorem lifted (os : Os) (started : os.Started) (H : Type) (enc : TypeId × Value → H) (F : Stop.Interp) :
    ReturnsInHanded {} Tryz.checked os 5 .any ((OpenSpec.ofChange Rows.formulaBackSpec).preRow enc Tryz.prog Tryz.f5 Rows.formulaBackRow.domain false Rows.formulaBackRow.laid) (((OpenSpec.ofChange Rows.formulaBackSpec).at F).post enc Tryz.prog Tryz.f5 false true false false) := by
  obtain ⟨places, hx⟩ := readsAt os enc
  refine returnsInHanded_of_row (C := Tryz.checked) (s := OpenSpec.ofChange Rows.formulaBackSpec) own started (by kernel_rfl) Tryz.func5
    (witness_row_at (enc := enc) (C := Tryz.checked) false (laidWorld os) (#[.agg #[.int .i64 0, .int .u64 0, .string ⟨#[]⟩, .bool false, .int .i64 0, .int .i64 0, .int .i64 0, .bool false, .bool false, .int .i64 0, .int .i64 0, .bool false, .bool false, .slice none 0 0], .string ⟨#[]⟩, .int .i64 0] : Array Value) rfl (by kernel_rfl) (by kernel_rfl) (by kernel_rfl)
      (OpenSpec.preRow_of_cond 8 hx (by kernel_rfl) (fun k hk => by cases hk) (by kernel_rfl) (laidMet os _))) ?_
  intro W base args ds gs before hval hW _ _ _ hL hS _
  exact contract H enc W base args ds gs before hval hW (bs hL hS) (vars hL)

theorem named : Tryz.pinned.checked.prog.funcNamed Rows.formulaBackRow.func = some 5 := by kernel_rfl
theorem f_inPlace : (Rows.formulaBackRow.inPlace == Tryz.pinned.checked.prog.inPlace 5) = true := by kernel_rfl
theorem f_unfollowed : (Rows.formulaBackRow.unfollowed == Tryz.pinned.checked.prog.unfollowed 5) = true := by kernel_rfl
theorem f_recurses : (Rows.formulaBackRow.recurses == Tryz.pinned.checked.prog.recurses 5) = true := by kernel_rfl
theorem f_named : (Rows.formulaBackRow.named == Tryz.pinned.checked.prog.varsNamed 5) = true := by kernel_rfl
theorem facts : joinedFacts Tryz.pinned.checked.prog 5 Tryz.f5 (OpenSpec.ofChange Rows.formulaBackSpec).bare Rows.formulaBackRow = true := by
  unfold joinedFacts
  refine dA (dA (dA (dA (dA (dA (dA (dA (dA (dA (dA (dA (dA (dA (dA (dA (dA (dA (dA (dA (dA (dA (dA (dA (dA (dA (dA (dA (dA (dA (dA ?_ ycl) ych) ?_) ?_) ?_) ycd) ?_) ycY) f_inPlace) f_unfollowed) f_recurses) f_named) ?_) ?_) ?_) ?_) ?_) ?_) ?_) ?_) ?_) ycC) ?_) yaU) ybS) yaA) yaJ) ?_) ?_) ?_) ?_
  all_goals kernel_rfl
theorem isInst : Tryz.f5.isInstance Tryz.pinned.checked.prog Rows.formulaBackRow.origin Rows.formulaBackRow.targs := of_decide_eq_true (by kernel_rfl)
theorem isWrap : Tryz.f5.isWrapper Tryz.pinned.checked.prog Rows.formulaBackRow.wrapper Rows.formulaBackRow.mainSum := by
  unfold Func.isWrapper; first | (rw [if_pos (by decide +kernel)]; kernel_rfl) | (rw [if_neg (by decide +kernel)]; exact ⟨rfl, rfl⟩)
theorem said : Rows.FormulaBackSaid :=
  OpenClaim.holds_of_cond 5 Tryz.f5 rfl rfl rfl rfl rfl rfl rfl ⟨rfl, rfl, rfl, rfl, rfl⟩ rfl rfl rfl rfl rfl named Tryz.func5 facts isInst isWrap
    (fun os started H enc _ F => by rw [OpenClaim.pre_eq_preRow]; exact lifted os started H enc F)

/-- No parameter wants a stand-in; what the card says of the looks is the program's own reckoning. -/
theorem plain (f : FuncId) (fn : Func) (hf : Tryz.pinned.checked.prog.funcNamed "tabard/tabardlaw16.FormulaBack" = some f) (hfn : Tryz.pinned.checked.prog.funcs[f]? = some fn) :
    true = Tryz.pinned.checked.prog.looks [] ∧ ∀ (j : Nat) t, fn.params[j]? = some t → Tryz.pinned.checked.prog.wantsStandIn t = false := by
  obtain rfl : f = 5 := Option.some.inj ((show Tryz.prog.funcNamed "tabard/tabardlaw16.FormulaBack" = some 5 from named).symm.trans hf) |>.symm
  obtain rfl : fn = Tryz.f5 := (Option.some.inj (Tryz.func5.symm.trans hfn)).symm
  refine ⟨by kernel_rfl, fun j t ht => ?_⟩
  rw [Tryz.params5] at ht
  have hm := Array.mem_of_getElem? ht
  simp only [List.mem_toArray, List.mem_cons, List.not_mem_nil, or_false] at hm
  rcases hm with rfl | rfl | rfl
  · exact (show Tryz.prog.wantsStandIn 27 = false by kernel_rfl)
  · exact (show Tryz.prog.wantsStandIn 9 = false by kernel_rfl)
  · exact (show Tryz.prog.wantsStandIn 3 = false by kernel_rfl)

theorem card : Rows.FormulaBackCardSaid :=
  Claim7.holds_tied_plain_at .later [] _ _ _ _ said (fun _ h => by cases h) (by kernel_rfl) (fun _ h => by cases h) formulaBack_row_tie rfl ⟨rfl, rfl⟩ (by kernel_rfl) rfl plain (by kernel_rfl)
end back
end Go.Proofs.YtilbpmimoijfhaaGreatDoor
