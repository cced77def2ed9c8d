/- What the cards of chapter 11 take of the listed variables: the locales' names and signs. -/
import Derived.Test.YtcbepojookbceaaDoorRows
import Derived.Test.YtcbepojookbceaaDoorT40d
import Derived.Test.YtcbepojookbceaaDoorT37
import Derived.OpenShut
import Derived.ProofKit
import Derived.Lib.LaidTab
import Derived.HandedShaped
import Derived.Shelf.Vars
namespace Go.Proofs.YtcbepojookbceaaDoor
set_option linter.all false
open Go.ChangeShapes Go.WideShapes Go.ChangeAt Go.RowKit

theorem own : ownKnob Tryd.prog.godebug = none := by kernel_rfl

theorem lt_of_cell {w : World} {b k : Nat} {v : Value} (h : w.cell? ⟨b, k, none⟩ = some v) : b < w.heap.size := by
  unfold World.cell? at h
  cases ho : w.heap[b]? with
  | none => simp [ho] at h
  | some o => exact (Array.getElem?_eq_some_iff.1 ho).1

/-- An array of texts that reads as some texts holds them, cell for cell. -/
theorem strs_at {H : Type} {enc : TypeId × Value → H} {P : Program} {w : World} {base : Nat} {sp : Nat → Bool} {held : Bool} {fuel : Nat} {t e : TypeId} {n : Nat} {cs : List Value} {l : List (List UInt8)} {p : List MemPlace}
    (ht : P.underlying t = some (.array n e)) (he : P.underlying e = some .string) (hce : P.cellsOf e = 1)
    (h : DataW.trod enc P w base sp held fuel t cs = some (.agg (l.map fun s => .lit (.string s)), p)) (i : Nat) (hi : i < l.length) : cs[i]? = some (.string ⟨(l[i]).toArray⟩) := by
  obtain ⟨xs, m, _, hx, _, hxl, hat⟩ := DataW.trod_array ht h
  have h1 : xs.map (·.1) = l.map fun s => (DataW.lit (.string s) : DataW H) := by
    have := congrArg Prod.fst hx
    simpa using this.symm
  have hl : xs.length = l.length := by
    have := congrArg List.length h1
    simpa using this
  have h2 := hat i (by omega)
  obtain ⟨x, hxi⟩ : ∃ x, xs[i]? = some x := ⟨xs[i], List.getElem?_eq_getElem (by omega)⟩
  rw [hxi, hce, Nat.mul_one] at h2
  obtain ⟨s, hs, hv, _⟩ := DataW.trod_string he h2
  have h3 := congrArg (·[i]?) h1
  simp only [List.getElem?_map, hxi, Option.map_some, List.getElem?_eq_getElem hi, Option.some.injEq] at h3
  rw [hv] at h3
  simp only [DataW.lit.injEq, Lit.string.injEq] at h3
  have h4 := congrArg (·[0]?) hs
  simp only [List.getElem?_take, List.getElem?_drop, Nat.add_zero] at h4
  rw [if_pos (by decide)] at h4
  rw [h4, ← h3]
  simp

/-- An array of arrays of texts. -/
theorem strs2_at {H : Type} {enc : TypeId × Value → H} {P : Program} {w : World} {base : Nat} {sp : Nat → Bool} {held : Bool} {fuel : Nat} {t e s : TypeId} {n m : Nat} {cs : List Value} {ll : List (List (List UInt8))} {p : List MemPlace}
    (ht : P.underlying t = some (.array n e)) (he : P.underlying e = some (.array m s)) (hs : P.underlying s = some .string) (hcs : P.cellsOf s = 1) (hce : P.cellsOf e = m)
    (h : DataW.trod enc P w base sp held fuel t cs = some (.agg (ll.map fun l => .agg (l.map fun s => .lit (.string s))), p)) (i j : Nat) (hi : i < ll.length) (hj : j < (ll[i]).length) (hjm : j < m) : cs[i * m + j]? = some (.string ⟨((ll[i])[j]).toArray⟩) := by
  obtain ⟨xs, f, _, hx, _, hxl, hat⟩ := DataW.trod_array ht h
  have h1 : xs.map (·.1) = ll.map fun l => (DataW.agg (l.map fun s => .lit (.string s)) : DataW H) := by
    have := congrArg Prod.fst hx
    simpa using this.symm
  have hl : xs.length = ll.length := by
    have := congrArg List.length h1
    simpa using this
  have h2 := hat i (by omega)
  obtain ⟨x, hxi⟩ : ∃ x, xs[i]? = some x := ⟨xs[i], List.getElem?_eq_getElem (by omega)⟩
  have h3 := congrArg (·[i]?) h1
  simp only [List.getElem?_map, hxi, Option.map_some, List.getElem?_eq_getElem hi, Option.some.injEq] at h3
  rw [hxi, hce] at h2
  obtain ⟨x1, x2⟩ := x
  simp only at h3
  subst h3
  have h4 := strs_at he hs hcs h2 j hj
  rw [List.getElem?_take, if_pos hjm, List.getElem?_drop] at h4
  exact h4

theorem gNames : Tryd.prog.globalNamed "tabard/locale.names" = some 0 := by kernel_rfl
theorem gSigns : Tryd.prog.globalNamed "tabard/locale.signs" = some 1 := by kernel_rfl

set_option maxRecDepth 100000 in
/-- What the row's list gives: the names and the signs. -/
theorem vars_of_laid {W : World} (h : laidMetH Tryd.prog [("tabard/locale.names", Rows.laid_tabard_locale_names), ("tabard/locale.signs", Rows.laid_tabard_locale_signs)] W) : Vars W := by
  obtain ⟨ps, ⟨g1, t1, c1, f1, p1, q1, hg1, ht1, hv1, hd1, ⟨g2, t2, c2, f2, p2, q2, hg2, ht2, hv2, hd2, _, _⟩, _⟩, _⟩ := h
  obtain rfl := Option.some.inj ((show (Tryd.prog.globals[0]?).map (·.type) = some 68 by kernel_rfl).symm.trans (by rw [← ht1, ← Option.some.inj (gNames.symm.trans hg1)]))
  obtain rfl := Option.some.inj ((show (Tryd.prog.globals[1]?).map (·.type) = some 70 by kernel_rfl).symm.trans (by rw [← ht2, ← Option.some.inj (gSigns.symm.trans hg2)]))
  have n := fun i => World.var?_cell gNames hv1 i
  have s := fun i => World.var?_cell gSigns hv2 i
  have nn := fun i hi => strs_at (l := [[99, 104], [100, 101], [101, 110], [102, 114], [104, 105], [115, 118]]) Tryd.underlying68 Tryd.underlying9 (show Tryd.prog.cellsOf 9 = 1 by kernel_rfl) hd1 i hi
  have ss := fun i j hi hj hjm => strs2_at (ll := [[[46], [226, 128, 153], [59], [45], [67, 72, 70]], [[44], [46], [59], [45], [226, 130, 172]], [[46], [44], [44], [45], [36]], [[44], [226, 128, 175], [59], [45], [226, 130, 172]], [[46], [44], [44], [45], [226, 130, 185]], [[44], [194, 160], [59], [226, 136, 146], [107, 114]]])
    Tryd.underlying70 Tryd.underlying69 Tryd.underlying9 (show Tryd.prog.cellsOf 9 = 1 by kernel_rfl) (show Tryd.prog.cellsOf 69 = 5 by kernel_rfl) hd2 i j hi hj hjm
  simp only [Array.getElem?_toList] at nn ss
  have N := fun i hi => (n i).trans (nn i hi)
  have S := fun i j hi hj hjm => (s (i * 5 + j)).trans (ss i j hi hj hjm)
  exact ⟨lt_of_cell (N 0 (by decide)), lt_of_cell (S 0 0 (by decide) (by decide) (by decide)), ⟨N 0 (by decide), N 1 (by decide), N 2 (by decide), N 3 (by decide), N 4 (by decide), N 5 (by decide)⟩,
    ⟨S 0 0 (by decide) (by decide) (by decide), S 0 1 (by decide) (by decide) (by decide), S 0 2 (by decide) (by decide) (by decide), S 0 3 (by decide) (by decide) (by decide), S 0 4 (by decide) (by decide) (by decide), S 1 0 (by decide) (by decide) (by decide), S 1 1 (by decide) (by decide) (by decide), S 1 2 (by decide) (by decide) (by decide), S 1 3 (by decide) (by decide) (by decide), S 1 4 (by decide) (by decide) (by decide), S 2 0 (by decide) (by decide) (by decide), S 2 1 (by decide) (by decide) (by decide), S 2 2 (by decide) (by decide) (by decide), S 2 3 (by decide) (by decide) (by decide), S 2 4 (by decide) (by decide) (by decide), S 3 0 (by decide) (by decide) (by decide), S 3 1 (by decide) (by decide) (by decide), S 3 2 (by decide) (by decide) (by decide), S 3 3 (by decide) (by decide) (by decide), S 3 4 (by decide) (by decide) (by decide), S 4 0 (by decide) (by decide) (by decide), S 4 1 (by decide) (by decide) (by decide), S 4 2 (by decide) (by decide) (by decide), S 4 3 (by decide) (by decide) (by decide), S 4 4 (by decide) (by decide) (by decide), S 5 0 (by decide) (by decide) (by decide), S 5 1 (by decide) (by decide) (by decide), S 5 2 (by decide) (by decide) (by decide), S 5 3 (by decide) (by decide) (by decide), S 5 4 (by decide) (by decide) (by decide)⟩⟩

/-- The library's greatest length holds some number, whatever the world. -/
theorem maxL_of_shaped {W : World} (h : W.ShapedOpen Tryd.prog) : MaxL W := by
  obtain ⟨m, hm⟩ := cell_of_shapedOpen_int (P := Tryd.prog) (g := 4) (t := 3) (zero := #[.int .i64 0]) h (of_decide_eq_true (by kernel_rfl)) (by kernel_rfl) rfl (by kernel_rfl) (by kernel_rfl) Tryd.underlying3
  exact ⟨lt_of_cell hm, m, hm⟩
end Go.Proofs.YtcbepojookbceaaDoor
