/- The statement FormulaBrackets, whole: its row and its tied card. For every input the law returns true, and what was handed in reads behind the call as it read before. -/
import Derived.Test.YtilbpmimoijfhaaGreatDoorCards
import Derived.Test.YtilbpmimoijfhaaGreatDoorTie
import Derived.Test.YtilbpmimoijfhaaGreatDoorY48
import Derived.Test.YtilbpmimoijfhaaGreatDoorY33
namespace Go.Proofs.YtilbpmimoijfhaaGreatDoor
set_option linter.all false
open Go.ChangeShapes Go.WideShapes Go.ChangeAt Go.RowKit Go.WideMaps Go.WideElems
open Go.ChangeMaps (setBlock shut_map_nil open_string shut_string keptBut_setBlock frozen?_setBlock heap_setBlock_same)

namespace brackets
set_option maxRecDepth 100000 in
theorem contract (H : Type) (enc : TypeId × Value → H) (W : World) (base : Nat) (args : Array Value) (ds gs : List (DataW H)) (before : List MemPlace)
    (hval : ∀ (j : Nat) t v, Tryz.f7.params[j]? = some t → args[j]? = some v → Value.okWide Tryz.prog W .any base t v)
    (hW : DataW.Whole enc Tryz.prog Tryz.f7.params.toList Rows.formulaBracketsSpec.vars false W args.toList ds gs before) (hs : Bs W) (hv : Vars W) :
    Calls Tryz.prog 7 args W fun e W' => ∃ v, e = .returned v ∧ Rows.formulaBracketsSpec.post enc Tryz.prog Tryz.f7 false true false false W args v W' := by
  have hW' := hW
  obtain ⟨p, q, hA0, hV, rfl, hfz, hnd⟩ := hW
  have hA : DataW.TrodAll enc Tryz.prog W 0 (fun _ => true) true Tryz.f7.params.toList args.toList ds p := hA0
  rw [Tryz.params7] at hA hval
  obtain ⟨v0, vs0, d0, ds0, p0, q0, hargs, rfl, rfl, h0, r0⟩ := trodAll_cons hA
  obtain ⟨v1, vs1, d1, ds1, p1, q1, rfl, rfl, rfl, h1, r1⟩ := trodAll_cons r0
  obtain ⟨rfl, rfl, rfl⟩ := trodAll_nil r1
  obtain rfl : args = #[v0, v1] := by cases args; simp_all
  obtain ⟨rfl, rfl⟩ := trodVars_none hV
  have h0k := h0
  obtain ⟨s0, rfl, rfl, hs0⟩ := ykJ (hval 0 9 v0 rfl rfl) h0
  have h1k := h1
  obtain ⟨n1, rfl, rfl, hn1⟩ := XB (hval 1 3 v1 rfl rfl) h1
  clear hA0
  simp only [List.append_nil] at hW'
  have b0 := fun (W' : World) (hb : Below W.heap.size W W') => Below.trod yS (by kernel_rfl) (of_decide_eq_true (by kernel_rfl)) h0k hb (fun x hx => by first | (cases hx; done) | exact hW'.lt x (by simp [hx]))
  have b1 := fun (W' : World) (hb : Below W.heap.size W W') => Below.trod yS (by kernel_rfl) (of_decide_eq_true (by kernel_rfl)) h1k hb (fun x hx => by first | (cases hx; done) | exact hW'.lt x (by simp [hx]))
  refine (yoy s0 n1 hs0 hn1 W hs hv).mono fun e W' ⟨he, hb⟩ => ?_
  subst he
  exact ⟨_, rfl, _, _, _, [], _, [], hW', trodAll_cons_mk (shut_bool Tryz.underlying4 _) trodAll_mk0, trodAll_cons_mk (b0 _ hb) (trodAll_cons_mk (b1 _ hb) trodAll_mk0), rfl, hb.frame _, fun h => by cases h⟩

theorem bs {W : World} (h : laidMetH Tryz.prog Rows.formulaBracketsRow.laid W) (hS : W.ShapedOpen Tryz.prog) : Bs W := by
  have h1 := laidMetH.filter (fun x => x.1 == "internal/strconv.uint64pow10") h
  rw [show Rows.formulaBracketsRow.laid.filter (fun x => x.1 == "internal/strconv.uint64pow10") = [("internal/strconv.uint64pow10", Rows.laid_internal_strconv_uint64pow10)] from by kernel_rfl] at h1
  have h2 := laidMetH.filter (fun x => x.1 == "strconv.ErrRange") h
  rw [show Rows.formulaBracketsRow.laid.filter (fun x => x.1 == "strconv.ErrRange") = [("strconv.ErrRange", Rows.laid_strconv_ErrRange)] from by kernel_rfl] at h2
  exact ycI h1 (Lib.laidMet.reads (l := [("strconv.ErrRange", Rows.laid_strconv_ErrRange)]) h2 (.head _)) hS
theorem vars {W : World} (h : laidMetH Tryz.prog Rows.formulaBracketsRow.laid W) : Vars W := by
  have h1 := laidMetH.filter (fun x => x.1 == "tabard/locale.names" || x.1 == "tabard/locale.signs") h
  rw [show Rows.formulaBracketsRow.laid.filter (fun x => x.1 == "tabard/locale.names" || x.1 == "tabard/locale.signs") = [("tabard/locale.names", Rows.laid_tabard_locale_names), ("tabard/locale.signs", Rows.laid_tabard_locale_signs)] from by kernel_rfl] at h1
  exact yc3 h1

theorem readsAt (os : Os) {H : Type} (enc : TypeId × Value → H) : ∃ places, DataW.whole enc Tryz.prog ((laidWorld os).forCall (fun _ _ => 0) ⟨#[], (#[.string ⟨#[]⟩, .int .i64 0] : Array Value), []⟩).memory Tryz.f7.params.toList Rows.formulaBracketsSpec.vars false (#[.string ⟨#[]⟩, .int .i64 0] : Array Value).toList 8 = some ([.lit (.string []), .lit (.int .i64 0)], [], places) :=
  ⟨[], by kernel_rfl⟩
set_option maxRecDepth 100000 in
theorem laidMet (os : Os) (args : Array Value) : laidMet Tryz.prog Rows.formulaBracketsRow.laid ((laidWorld os).forCall (fun _ _ => 0) ⟨#[], args, []⟩).memory :=
  laidMet_of_run' 8 (by kernel_rfl) (by kernel_rfl)

set_option maxRecDepth 100000 in
theorem lifted (os : Os) (started : os.Started) (H : Type) (enc : TypeId × Value → H) (F : Stop.Interp) :
    ReturnsInHanded {} Tryz.checked os 7 .any ((OpenSpec.ofChange Rows.formulaBracketsSpec).preRow enc Tryz.prog Tryz.f7 Rows.formulaBracketsRow.domain false Rows.formulaBracketsRow.laid) (((OpenSpec.ofChange Rows.formulaBracketsSpec).at F).post enc Tryz.prog Tryz.f7 false true false false) := by
  obtain ⟨places, hx⟩ := readsAt os enc
  refine returnsInHanded_of_row (C := Tryz.checked) (s := OpenSpec.ofChange Rows.formulaBracketsSpec) own started (by kernel_rfl) Tryz.func7
    (witness_row_at (enc := enc) (C := Tryz.checked) false (laidWorld os) (#[.string ⟨#[]⟩, .int .i64 0] : Array Value) rfl (by kernel_rfl) (by kernel_rfl) (by kernel_rfl)
      (OpenSpec.preRow_of_cond 8 hx (by kernel_rfl) (fun k hk => by cases hk) (by kernel_rfl) (laidMet os _))) ?_
  intro W base args ds gs before hval hW _ _ _ hL hS _
  exact contract H enc W base args ds gs before hval hW (bs hL hS) (vars hL)

theorem named : Tryz.pinned.checked.prog.funcNamed Rows.formulaBracketsRow.func = some 7 := by kernel_rfl
theorem f_inPlace : (Rows.formulaBracketsRow.inPlace == Tryz.pinned.checked.prog.inPlace 7) = true := by kernel_rfl
theorem f_unfollowed : (Rows.formulaBracketsRow.unfollowed == Tryz.pinned.checked.prog.unfollowed 7) = true := by kernel_rfl
theorem f_recurses : (Rows.formulaBracketsRow.recurses == Tryz.pinned.checked.prog.recurses 7) = true := by kernel_rfl
theorem f_named : (Rows.formulaBracketsRow.named == Tryz.pinned.checked.prog.varsNamed 7) = true := by kernel_rfl
theorem facts : joinedFacts Tryz.pinned.checked.prog 7 Tryz.f7 (OpenSpec.ofChange Rows.formulaBracketsSpec).bare Rows.formulaBracketsRow = true := by
  unfold joinedFacts
  refine dA (dA (dA (dA (dA (dA (dA (dA (dA (dA (dA (dA (dA (dA (dA (dA (dA (dA (dA (dA (dA (dA (dA (dA (dA (dA (dA (dA (dA (dA (dA ?_ ycl) ych) ?_) ?_) ?_) ycd) ?_) ycY) f_inPlace) f_unfollowed) f_recurses) f_named) ?_) ?_) ?_) ?_) ?_) ?_) ?_) ?_) ?_) ycC) ?_) yaU) ybS) yaA) yaJ) ?_) ?_) ?_) ?_
  all_goals kernel_rfl
theorem isInst : Tryz.f7.isInstance Tryz.pinned.checked.prog Rows.formulaBracketsRow.origin Rows.formulaBracketsRow.targs := of_decide_eq_true (by kernel_rfl)
theorem isWrap : Tryz.f7.isWrapper Tryz.pinned.checked.prog Rows.formulaBracketsRow.wrapper Rows.formulaBracketsRow.mainSum := by
  unfold Func.isWrapper; first | (rw [if_pos (by decide +kernel)]; kernel_rfl) | (rw [if_neg (by decide +kernel)]; exact ⟨rfl, rfl⟩)
theorem said : Rows.FormulaBracketsSaid :=
  OpenClaim.holds_of_cond 7 Tryz.f7 rfl rfl rfl rfl rfl rfl rfl ⟨rfl, rfl, rfl, rfl, rfl⟩ rfl rfl rfl rfl rfl named Tryz.func7 facts isInst isWrap
    (fun os started H enc _ F => by rw [OpenClaim.pre_eq_preRow]; exact lifted os started H enc F)

/-- No parameter wants a stand-in; what the card says of the looks is the program's own reckoning. -/
theorem plain (f : FuncId) (fn : Func) (hf : Tryz.pinned.checked.prog.funcNamed "tabard/tabardlaw16.FormulaBrackets" = some f) (hfn : Tryz.pinned.checked.prog.funcs[f]? = some fn) :
    true = Tryz.pinned.checked.prog.looks [] ∧ ∀ (j : Nat) t, fn.params[j]? = some t → Tryz.pinned.checked.prog.wantsStandIn t = false := by
  obtain rfl : f = 7 := Option.some.inj ((show Tryz.prog.funcNamed "tabard/tabardlaw16.FormulaBrackets" = some 7 from named).symm.trans hf) |>.symm
  obtain rfl : fn = Tryz.f7 := (Option.some.inj (Tryz.func7.symm.trans hfn)).symm
  refine ⟨by kernel_rfl, fun j t ht => ?_⟩
  rw [Tryz.params7] at ht
  have hm := Array.mem_of_getElem? ht
  simp only [List.mem_toArray, List.mem_cons, List.not_mem_nil, or_false] at hm
  rcases hm with rfl | rfl
  · exact (show Tryz.prog.wantsStandIn 9 = false by kernel_rfl)
  · exact (show Tryz.prog.wantsStandIn 3 = false by kernel_rfl)

theorem card : Rows.FormulaBracketsCardSaid :=
  Claim7.holds_tied_plain_at .later [] _ _ _ _ said (fun _ h => by cases h) (by kernel_rfl) (fun _ h => by cases h) formulaBrackets_row_tie rfl ⟨rfl, rfl⟩ (by kernel_rfl) rfl plain (by kernel_rfl)
end brackets
end Go.Proofs.YtilbpmimoijfhaaGreatDoor
