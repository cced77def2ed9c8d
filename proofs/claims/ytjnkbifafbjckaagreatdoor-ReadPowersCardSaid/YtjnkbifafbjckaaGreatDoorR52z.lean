/- The statement ReadPowers, whole: its row and its tied card. For every input the law returns true, and what was handed in reads behind the call as it read before. -/
import Derived.Test.YtjnkbifafbjckaaGreatDoorCards
import Derived.Test.YtjnkbifafbjckaaGreatDoorTie
import Derived.Test.YtjnkbifafbjckaaGreatDoorLw
import Derived.Test.YtjnkbifafbjckaaGreatDoorZ1
import Derived.Test.YtjnkbifafbjckaaGreatDoorZ5
import Derived.Test.YtjnkbifafbjckaaGreatDoorZ27
import Derived.OpenShut
namespace Go.Proofs.YtjnkbifafbjckaaGreatDoor
set_option linter.all false
open Go.ChangeShapes Go.WideShapes Go.ChangeAt Go.RowKit Go.WideMaps Go.WideElems
open Go.ChangeMaps (setBlock shut_map_nil open_string shut_string keptBut_setBlock frozen?_setBlock heap_setBlock_same)

namespace powers
set_option maxRecDepth 100000 in
theorem contract (H : Type) (enc : TypeId × Value → H) (W : World) (base : Nat) (args : Array Value) (ds gs : List (DataW H)) (before : List MemPlace)
    (hval : ∀ (j : Nat) t v, Tryz.f8.params[j]? = some t → args[j]? = some v → Value.okWide Tryz.prog W .any base t v)
    (hW : DataW.Whole enc Tryz.prog Tryz.f8.params.toList Rows.readPowersSpec.vars false W args.toList ds gs before) :
    Calls Tryz.prog 8 args W fun e W' => ∃ v, e = .returned v ∧ Rows.readPowersSpec.post enc Tryz.prog Tryz.f8 false true false false W args v W' := by
  have hW' := hW
  obtain ⟨p, q, hA0, hV, rfl, hfz, hnd⟩ := hW
  have hA : DataW.TrodAll enc Tryz.prog W 0 (fun _ => true) true Tryz.f8.params.toList args.toList ds p := hA0
  rw [Tryz.params8] at hA hval
  obtain ⟨v0, vs0, d0, ds0, p0, q0, hargs, rfl, rfl, h0, r0⟩ := trodAll_cons hA
  obtain ⟨rfl, rfl, rfl⟩ := trodAll_nil r0
  obtain rfl : args = #[v0] := by cases args; simp_all
  obtain ⟨rfl, rfl⟩ := trodVars_none hV
  have h0k := h0
  obtain ⟨n0, rfl, rfl, hn0, c0⟩ := par_int (hval 0 3 v0 rfl rfl) h0
  clear hA0
  simp only [List.append_nil] at hW'
  have b0 := fun (W' : World) (hb : Below W.heap.size W W') => Below.trod laidOut (by kernel_rfl) (of_decide_eq_true (by kernel_rfl)) h0k hb (fun x hx => by first | (cases hx; done) | exact hW'.lt x (by simp [hx]))
  refine (l8_powers_any n0 W hn0).mono fun e W' ⟨he, hb⟩ => ?_
  subst he
  exact ⟨_, rfl, _, _, _, [], _, [], hW', trodAll_cons_mk (shut_bool Tryz.underlying4 _) trodAll_mk0, trodAll_cons_mk (b0 _ hb) trodAll_mk0, rfl, hb.frame _, fun h => by cases h⟩

theorem readsAt (os : Os) {H : Type} (enc : TypeId × Value → H) : ∃ places, DataW.whole enc Tryz.prog ((laidWorld os).forCall (fun _ _ => 0) ⟨#[], (#[.int .i64 0] : Array Value), []⟩).memory Tryz.f8.params.toList Rows.readPowersSpec.vars false (#[.int .i64 0] : Array Value).toList 8 = some ([.lit (.int .i64 0)], [], places) :=
  ⟨[], by kernel_rfl⟩
set_option maxRecDepth 100000 in
theorem laidMet (os : Os) (args : Array Value) : laidMet Tryz.prog Rows.readPowersRow.laid ((laidWorld os).forCall (fun _ _ => 0) ⟨#[], args, []⟩).memory :=
  laidMet_of_run' 8 (by kernel_rfl) (by kernel_rfl)

set_option maxRecDepth 100000 in
theorem lifted (os : Os) (started : os.Started) (H : Type) (enc : TypeId × Value → H) (F : Stop.Interp) :
    ReturnsInHanded {} Tryz.checked os 8 .any ((OpenSpec.ofChange Rows.readPowersSpec).preRow enc Tryz.prog Tryz.f8 Rows.readPowersRow.domain false Rows.readPowersRow.laid) (((OpenSpec.ofChange Rows.readPowersSpec).at F).post enc Tryz.prog Tryz.f8 false true false false) := by
  obtain ⟨places, hx⟩ := readsAt os enc
  refine returnsInHanded_of_row (C := Tryz.checked) (s := OpenSpec.ofChange Rows.readPowersSpec) own started (by kernel_rfl) Tryz.func8
    (witness_row_at (enc := enc) (C := Tryz.checked) false (laidWorld os) (#[.int .i64 0] : Array Value) rfl (by kernel_rfl) (by kernel_rfl) (by kernel_rfl)
      (OpenSpec.preRow_of_cond 8 hx (by kernel_rfl) (fun k hk => by cases hk) (by kernel_rfl) (laidMet os _))) ?_
  intro W base args ds gs before hval hW _ _ _ hL hS _
  exact contract H enc W base args ds gs before hval hW

theorem named : Tryz.pinned.checked.prog.funcNamed Rows.readPowersRow.func = some 8 := by kernel_rfl
theorem f_inPlace : (Rows.readPowersRow.inPlace == Tryz.pinned.checked.prog.inPlace 8) = true := by kernel_rfl
theorem f_unfollowed : (Rows.readPowersRow.unfollowed == Tryz.pinned.checked.prog.unfollowed 8) = true := by kernel_rfl
theorem f_recurses : (Rows.readPowersRow.recurses == Tryz.pinned.checked.prog.recurses 8) = true := by kernel_rfl
theorem f_named : (Rows.readPowersRow.named == Tryz.pinned.checked.prog.varsNamed 8) = true := by kernel_rfl
theorem facts : joinedFacts Tryz.pinned.checked.prog 8 Tryz.f8 (OpenSpec.ofChange Rows.readPowersSpec).bare Rows.readPowersRow = true := by
  unfold joinedFacts
  refine and_mk (and_mk (and_mk (and_mk (and_mk (and_mk (and_mk (and_mk (and_mk (and_mk (and_mk (and_mk (and_mk (and_mk (and_mk (and_mk (and_mk (and_mk (and_mk (and_mk (and_mk (and_mk (and_mk (and_mk (and_mk (and_mk (and_mk (and_mk (and_mk (and_mk (and_mk ?_ cf_laid) cf_maps) ?_) ?_) ?_) cf_stops) ?_) cf_knobs) f_inPlace) f_unfollowed) f_recurses) f_named) ?_) ?_) ?_) ?_) ?_) ?_) ?_) ?_) ?_) cf_plain) ?_) cf_heard) cf_enter) cf_lifted) cf_make) ?_) ?_) ?_) ?_
  all_goals kernel_rfl
theorem isInst : Tryz.f8.isInstance Tryz.pinned.checked.prog Rows.readPowersRow.origin Rows.readPowersRow.targs := of_decide_eq_true (by kernel_rfl)
theorem isWrap : Tryz.f8.isWrapper Tryz.pinned.checked.prog Rows.readPowersRow.wrapper Rows.readPowersRow.mainSum := by
  unfold Func.isWrapper; first | (rw [if_pos (by decide +kernel)]; kernel_rfl) | (rw [if_neg (by decide +kernel)]; exact ⟨rfl, rfl⟩)
theorem said : Rows.ReadPowersSaid :=
  OpenClaim.holds_of_cond 8 Tryz.f8 rfl rfl rfl rfl rfl rfl rfl ⟨rfl, rfl, rfl, rfl, rfl⟩ rfl rfl rfl rfl rfl named Tryz.func8 facts isInst isWrap
    (fun os started H enc _ F => by rw [OpenClaim.pre_eq_preRow]; exact lifted os started H enc F)

/-- No parameter wants a stand-in; what the card says of the looks is the program's own reckoning. -/
theorem plain (f : FuncId) (fn : Func) (hf : Tryz.pinned.checked.prog.funcNamed "tabard/tabardlaw8.ReadPowers" = some f) (hfn : Tryz.pinned.checked.prog.funcs[f]? = some fn) :
    true = Tryz.pinned.checked.prog.looks [] ∧ ∀ (j : Nat) t, fn.params[j]? = some t → Tryz.pinned.checked.prog.wantsStandIn t = false := by
  obtain rfl : f = 8 := Option.some.inj ((show Tryz.prog.funcNamed "tabard/tabardlaw8.ReadPowers" = some 8 from named).symm.trans hf) |>.symm
  obtain rfl : fn = Tryz.f8 := (Option.some.inj (Tryz.func8.symm.trans hfn)).symm
  refine ⟨by kernel_rfl, fun j t ht => ?_⟩
  rw [Tryz.params8] at ht
  have hm := Array.mem_of_getElem? ht
  simp only [List.mem_toArray, List.mem_cons, List.not_mem_nil, or_false] at hm
  obtain rfl := hm
  exact (show Tryz.prog.wantsStandIn 3 = false by kernel_rfl)

theorem card : Rows.ReadPowersCardSaid :=
  Claim7.holds_tied_plain_at .later [] _ _ _ _ said (fun _ h => by cases h) (by kernel_rfl) (fun _ h => by cases h) readPowers_row_tie rfl ⟨rfl, rfl⟩ (by kernel_rfl) rfl plain (by kernel_rfl)
end powers
end Go.Proofs.YtjnkbifafbjckaaGreatDoor
