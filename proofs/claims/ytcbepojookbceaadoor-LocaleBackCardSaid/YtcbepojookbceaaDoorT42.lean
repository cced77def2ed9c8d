import Derived.Test.YtcbepojookbceaaDoorT39
import Derived.Test.YtcbepojookbceaaDoorT40d
import Derived.RegionTactic
import Derived.BigRegion
namespace Go.Proofs.YtcbepojookbceaaDoor
set_option linter.all false
open Go.RowKit

/-- The six, as the reference lays them in block b. -/
def AllAt (w : World) (b : Nat) : Prop := b < w.heap.size ∧ (w.cell? ⟨b, 0, none⟩ = some (.string ⟨#[99, 104]⟩) ∧ w.cell? ⟨b, 1, none⟩ = some (.string ⟨#[46]⟩) ∧ w.cell? ⟨b, 2, none⟩ = some (.string ⟨#[226, 128, 153]⟩) ∧ w.cell? ⟨b, 3, none⟩ = some (.string ⟨#[59]⟩) ∧ w.cell? ⟨b, 4, none⟩ = some (.string ⟨#[45]⟩) ∧ w.cell? ⟨b, 5, none⟩ = some (.string ⟨#[37]⟩) ∧ w.cell? ⟨b, 6, none⟩ = some (.string ⟨#[67, 72, 70]⟩) ∧ w.cell? ⟨b, 7, none⟩ = some (.bool true) ∧ w.cell? ⟨b, 8, none⟩ = some (.bool true) ∧ w.cell? ⟨b, 9, none⟩ = some (.int .i64 3)) ∧ (w.cell? ⟨b, 10, none⟩ = some (.string ⟨#[100, 101]⟩) ∧ w.cell? ⟨b, 11, none⟩ = some (.string ⟨#[44]⟩) ∧ w.cell? ⟨b, 12, none⟩ = some (.string ⟨#[46]⟩) ∧ w.cell? ⟨b, 13, none⟩ = some (.string ⟨#[59]⟩) ∧ w.cell? ⟨b, 14, none⟩ = some (.string ⟨#[45]⟩) ∧ w.cell? ⟨b, 15, none⟩ = some (.string ⟨#[37]⟩) ∧ w.cell? ⟨b, 16, none⟩ = some (.string ⟨#[226, 130, 172]⟩) ∧ w.cell? ⟨b, 17, none⟩ = some (.bool false) ∧ w.cell? ⟨b, 18, none⟩ = some (.bool true) ∧ w.cell? ⟨b, 19, none⟩ = some (.int .i64 3)) ∧ (w.cell? ⟨b, 20, none⟩ = some (.string ⟨#[101, 110]⟩) ∧ w.cell? ⟨b, 21, none⟩ = some (.string ⟨#[46]⟩) ∧ w.cell? ⟨b, 22, none⟩ = some (.string ⟨#[44]⟩) ∧ w.cell? ⟨b, 23, none⟩ = some (.string ⟨#[44]⟩) ∧ w.cell? ⟨b, 24, none⟩ = some (.string ⟨#[45]⟩) ∧ w.cell? ⟨b, 25, none⟩ = some (.string ⟨#[37]⟩) ∧ w.cell? ⟨b, 26, none⟩ = some (.string ⟨#[36]⟩) ∧ w.cell? ⟨b, 27, none⟩ = some (.bool true) ∧ w.cell? ⟨b, 28, none⟩ = some (.bool false) ∧ w.cell? ⟨b, 29, none⟩ = some (.int .i64 3)) ∧ (w.cell? ⟨b, 30, none⟩ = some (.string ⟨#[102, 114]⟩) ∧ w.cell? ⟨b, 31, none⟩ = some (.string ⟨#[44]⟩) ∧ w.cell? ⟨b, 32, none⟩ = some (.string ⟨#[226, 128, 175]⟩) ∧ w.cell? ⟨b, 33, none⟩ = some (.string ⟨#[59]⟩) ∧ w.cell? ⟨b, 34, none⟩ = some (.string ⟨#[45]⟩) ∧ w.cell? ⟨b, 35, none⟩ = some (.string ⟨#[37]⟩) ∧ w.cell? ⟨b, 36, none⟩ = some (.string ⟨#[226, 130, 172]⟩) ∧ w.cell? ⟨b, 37, none⟩ = some (.bool false) ∧ w.cell? ⟨b, 38, none⟩ = some (.bool true) ∧ w.cell? ⟨b, 39, none⟩ = some (.int .i64 3)) ∧ (w.cell? ⟨b, 40, none⟩ = some (.string ⟨#[104, 105]⟩) ∧ w.cell? ⟨b, 41, none⟩ = some (.string ⟨#[46]⟩) ∧ w.cell? ⟨b, 42, none⟩ = some (.string ⟨#[44]⟩) ∧ w.cell? ⟨b, 43, none⟩ = some (.string ⟨#[44]⟩) ∧ w.cell? ⟨b, 44, none⟩ = some (.string ⟨#[45]⟩) ∧ w.cell? ⟨b, 45, none⟩ = some (.string ⟨#[37]⟩) ∧ w.cell? ⟨b, 46, none⟩ = some (.string ⟨#[226, 130, 185]⟩) ∧ w.cell? ⟨b, 47, none⟩ = some (.bool true) ∧ w.cell? ⟨b, 48, none⟩ = some (.bool false) ∧ w.cell? ⟨b, 49, none⟩ = some (.int .i64 2)) ∧ (w.cell? ⟨b, 50, none⟩ = some (.string ⟨#[115, 118]⟩) ∧ w.cell? ⟨b, 51, none⟩ = some (.string ⟨#[44]⟩) ∧ w.cell? ⟨b, 52, none⟩ = some (.string ⟨#[194, 160]⟩) ∧ w.cell? ⟨b, 53, none⟩ = some (.string ⟨#[59]⟩) ∧ w.cell? ⟨b, 54, none⟩ = some (.string ⟨#[226, 136, 146]⟩) ∧ w.cell? ⟨b, 55, none⟩ = some (.string ⟨#[37]⟩) ∧ w.cell? ⟨b, 56, none⟩ = some (.string ⟨#[107, 114]⟩) ∧ w.cell? ⟨b, 57, none⟩ = some (.bool false) ∧ w.cell? ⟨b, 58, none⟩ = some (.bool true) ∧ w.cell? ⟨b, 59, none⟩ = some (.int .i64 3))
theorem AllAt.on {w w1 : World} {b : Nat} (h : AllAt w b) (hb : Below w.heap.size w w1) : AllAt w1 b := by
  obtain ⟨h1, h2⟩ := h
  have k1 := fun i => hb.cell (p := ⟨b, i, none⟩) h1
  refine ⟨Nat.lt_of_lt_of_le h1 hb.size, ?_⟩
  simp only [k1]; exact h2
/-- What All answers. -/
def AllIs (w : World) (e : Ending) (w' : World) : Prop := ∃ b, e = .returned (.slice (some ⟨b, 0, none⟩) 6 6) ∧ w.heap.size ≤ b ∧ AllAt w' b ∧ Below w.heap.size w w'

set_option maxRecDepth 100000 in
set_option maxHeartbeats 1000000 in
theorem r11_all_any (w : World) : Calls Tryd.prog 27 #[] w (AllIs w) := by
  go_enter Tryd.func27, Tryd.ntmps27
  go_wp2
  go_ret
  refine ⟨_, rfl, Nat.le_refl _, ⟨by simp, ?_⟩, by (repeat (first | exact Below.refl _ _ | assumption | refine Below.setCell ?_ (by first | omega | (simp <;> omega)) _ | refine Below.alloc ?_ (by first | omega | (simp <;> omega)) _ | refine Below.drew ?_ | refine below_drewN' ?_ _))⟩
  simp [go_sem]

/-- What Names answers: the six names. -/
def NamesAt (w : World) (b : Nat) : Prop := b < w.heap.size ∧ w.cell? ⟨b, 0, none⟩ = some (.string ⟨#[99, 104]⟩) ∧ w.cell? ⟨b, 1, none⟩ = some (.string ⟨#[100, 101]⟩) ∧ w.cell? ⟨b, 2, none⟩ = some (.string ⟨#[101, 110]⟩) ∧ w.cell? ⟨b, 3, none⟩ = some (.string ⟨#[102, 114]⟩) ∧ w.cell? ⟨b, 4, none⟩ = some (.string ⟨#[104, 105]⟩) ∧ w.cell? ⟨b, 5, none⟩ = some (.string ⟨#[115, 118]⟩)
theorem NamesAt.on {w w1 : World} {b : Nat} (h : NamesAt w b) (hb : Below w.heap.size w w1) : NamesAt w1 b := by
  obtain ⟨h1, h2⟩ := h
  have k1 := fun i => hb.cell (p := ⟨b, i, none⟩) h1
  refine ⟨Nat.lt_of_lt_of_le h1 hb.size, ?_⟩
  simp only [k1]; exact h2
def NamesIs (w : World) (e : Ending) (w' : World) : Prop := ∃ b, e = .returned (.slice (some ⟨b, 0, none⟩) 6 6) ∧ w.heap.size ≤ b ∧ NamesAt w' b ∧ Below w.heap.size w w'
set_option maxRecDepth 100000 in
set_option maxHeartbeats 1000000 in
theorem lo_names_any (w : World) (hv : Vars w) : Calls Tryd.prog 26 #[] w (NamesIs w) := by
  obtain ⟨g1, g2, ⟨n0, n1, n2, n3, n4, n5⟩, h4⟩ := hv
  clear h4 g2
  go_enter Tryd.func26, Tryd.ntmps26
  go_wp2
  go_ret
  refine ⟨_, rfl, Nat.le_refl _, ⟨by simp, ?_⟩, by (repeat (first | exact Below.refl _ _ | assumption | refine Below.setCell ?_ (by first | omega | (simp <;> omega)) _ | refine Below.alloc ?_ (by first | omega | (simp <;> omega)) _ | refine Below.drew ?_ | refine below_drewN' ?_ _))⟩
  simp [go_sem]
end Go.Proofs.YtcbepojookbceaaDoor
