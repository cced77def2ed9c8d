import Derived.Test.YtcbepojookbceaaDoorT30
import Derived.RegionTactic
import Derived.BigRegion
import Derived.Deep.RegionHeld3
namespace Go.Proofs.YtcbepojookbceaaDoor
set_option linter.all false
open Go.RowKit

/-- The variables names and signs hold what their initialisers lay. -/
def Vars (w : World) : Prop := 0 < w.heap.size ∧ 1 < w.heap.size ∧ (w.cell? ⟨0, 0, none⟩ = some (.string ⟨#[99, 104]⟩) ∧ w.cell? ⟨0, 1, none⟩ = some (.string ⟨#[100, 101]⟩) ∧ w.cell? ⟨0, 2, none⟩ = some (.string ⟨#[101, 110]⟩) ∧ w.cell? ⟨0, 3, none⟩ = some (.string ⟨#[102, 114]⟩) ∧ w.cell? ⟨0, 4, none⟩ = some (.string ⟨#[104, 105]⟩) ∧ w.cell? ⟨0, 5, none⟩ = some (.string ⟨#[115, 118]⟩)) ∧ (w.cell? ⟨1, 0, none⟩ = some (.string ⟨#[46]⟩) ∧ w.cell? ⟨1, 1, none⟩ = some (.string ⟨#[226, 128, 153]⟩) ∧ w.cell? ⟨1, 2, none⟩ = some (.string ⟨#[59]⟩) ∧ w.cell? ⟨1, 3, none⟩ = some (.string ⟨#[45]⟩) ∧ w.cell? ⟨1, 4, none⟩ = some (.string ⟨#[67, 72, 70]⟩) ∧ w.cell? ⟨1, 5, none⟩ = some (.string ⟨#[44]⟩) ∧ w.cell? ⟨1, 6, none⟩ = some (.string ⟨#[46]⟩) ∧ w.cell? ⟨1, 7, none⟩ = some (.string ⟨#[59]⟩) ∧ w.cell? ⟨1, 8, none⟩ = some (.string ⟨#[45]⟩) ∧ w.cell? ⟨1, 9, none⟩ = some (.string ⟨#[226, 130, 172]⟩) ∧ w.cell? ⟨1, 10, none⟩ = some (.string ⟨#[46]⟩) ∧ w.cell? ⟨1, 11, none⟩ = some (.string ⟨#[44]⟩) ∧ w.cell? ⟨1, 12, none⟩ = some (.string ⟨#[44]⟩) ∧ w.cell? ⟨1, 13, none⟩ = some (.string ⟨#[45]⟩) ∧ w.cell? ⟨1, 14, none⟩ = some (.string ⟨#[36]⟩) ∧ w.cell? ⟨1, 15, none⟩ = some (.string ⟨#[44]⟩) ∧ w.cell? ⟨1, 16, none⟩ = some (.string ⟨#[226, 128, 175]⟩) ∧ w.cell? ⟨1, 17, none⟩ = some (.string ⟨#[59]⟩) ∧ w.cell? ⟨1, 18, none⟩ = some (.string ⟨#[45]⟩) ∧ w.cell? ⟨1, 19, none⟩ = some (.string ⟨#[226, 130, 172]⟩) ∧ w.cell? ⟨1, 20, none⟩ = some (.string ⟨#[46]⟩) ∧ w.cell? ⟨1, 21, none⟩ = some (.string ⟨#[44]⟩) ∧ w.cell? ⟨1, 22, none⟩ = some (.string ⟨#[44]⟩) ∧ w.cell? ⟨1, 23, none⟩ = some (.string ⟨#[45]⟩) ∧ w.cell? ⟨1, 24, none⟩ = some (.string ⟨#[226, 130, 185]⟩) ∧ w.cell? ⟨1, 25, none⟩ = some (.string ⟨#[44]⟩) ∧ w.cell? ⟨1, 26, none⟩ = some (.string ⟨#[194, 160]⟩) ∧ w.cell? ⟨1, 27, none⟩ = some (.string ⟨#[59]⟩) ∧ w.cell? ⟨1, 28, none⟩ = some (.string ⟨#[226, 136, 146]⟩) ∧ w.cell? ⟨1, 29, none⟩ = some (.string ⟨#[107, 114]⟩))
/-- What Find answers for one of the six. -/
def FindIs (l : Lc.Loc) (w : World) (e : Ending) (w' : World) : Prop := ∃ b, e = .returned (.tuple #[LV b l, .int .i64 0]) ∧ w.heap.size ≤ b ∧ Szs w' b l ∧ Below w.heap.size w w'
theorem Vars.on {w w1 : World} (h : Vars w) (hb : Below w.heap.size w w1) : Vars w1 := by
  obtain ⟨h1, h2, h3, h4⟩ := h
  have k1 := fun i => hb.cell (p := ⟨0, i, none⟩) h1
  have k2 := fun i => hb.cell (p := ⟨1, i, none⟩) h2
  refine ⟨Nat.lt_of_lt_of_le h1 hb.size, Nat.lt_of_lt_of_le h2 hb.size, ?_, ?_⟩
  · simp only [k1]; exact h3
  · simp only [k2]; exact h4
end Go.Proofs.YtcbepojookbceaaDoor
