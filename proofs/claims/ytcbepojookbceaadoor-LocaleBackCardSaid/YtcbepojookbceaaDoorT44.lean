import Derived.Test.YtcbepojookbceaaDoorT40
import Derived.Test.YtcbepojookbceaaDoorT40b
import Derived.Test.YtcbepojookbceaaDoorT42
import Derived.Test.YtcbepojookbceaaDoorCells
import Derived.RegionTactic
import Derived.BigRegion
import Derived.ChangeAlike
namespace Go.Proofs.YtcbepojookbceaaDoor
set_option linter.all false
open Go.RowKit

/-- What find answers: the program's locale and the reference's. -/
def Find2 (l : Lc.Loc) (w : World) (e : Ending) (w' : World) : Prop := ∃ b, e = .returned (.tuple #[LV b l, RV l]) ∧ w.heap.size ≤ b ∧ Szs w' b l ∧ Below w.heap.size w w'

set_option maxRecDepth 100000 in
set_option maxHeartbeats 4000000 in
theorem l11_find_ch (c : Int) (w : World) (hv : Vars w) (hc : -9223372036854775808 ≤ c ∧ c ≤ 9223372036854775807) (hp : pickC c = 0) : Calls Tryd.prog 13 #[.int .i64 c] w (Find2 Lc.ch w) := by
  have hpk := fun w => l11_pick_any c w hc
  rw [hp] at hpk
  have HPK := Lib.hid hpk; have HV := Lib.hid hv
  clear hpk hv hp hc
  go_enter Tryd.func13, Tryd.ntmps13
  go_wp2_with (first
    | (go_at_call 41; (with_reducible refine (HPK.out _).mono ?_); rintro e w' ⟨rfl, rfl⟩)
    | (go_at_call 27; (with_reducible refine (r11_all_any _).mono ?_); rintro e w1 ⟨b, rfl, hlow, ⟨hb1, ⟨c0_0, c0_1, c0_2, c0_3, c0_4, c0_5, c0_6, c0_7, c0_8, c0_9⟩, ⟨c1_0, c1_1, c1_2, c1_3, c1_4, c1_5, c1_6, c1_7, c1_8, c1_9⟩, ⟨c2_0, c2_1, c2_2, c2_3, c2_4, c2_5, c2_6, c2_7, c2_8, c2_9⟩, ⟨c3_0, c3_1, c3_2, c3_3, c3_4, c3_5, c3_6, c3_7, c3_8, c3_9⟩, ⟨c4_0, c4_1, c4_2, c4_3, c4_4, c4_5, c4_6, c4_7, c4_8, c4_9⟩, ⟨c5_0, c5_1, c5_2, c5_3, c5_4, c5_5, c5_6, c5_7, c5_8, c5_9⟩⟩, hbel⟩; clear c1_0 c1_1 c1_2 c1_3 c1_4 c1_5 c1_6 c1_7 c1_8 c1_9 c2_0 c2_1 c2_2 c2_3 c2_4 c2_5 c2_6 c2_7 c2_8 c2_9 c3_0 c3_1 c3_2 c3_3 c3_4 c3_5 c3_6 c3_7 c3_8 c3_9 c4_0 c4_1 c4_2 c4_3 c4_4 c4_5 c4_6 c4_7 c4_8 c4_9 c5_0 c5_1 c5_2 c5_3 c5_4 c5_5 c5_6 c5_7 c5_8 c5_9; have hB_w1 : Below w.heap.size w w1 := Below.trans (by (repeat (first | exact Below.refl _ _ | assumption | refine Below.setCell ?_ (by first | omega | (simp <;> omega)) _ | refine Below.alloc ?_ (by first | omega | (simp <;> omega)) _ | refine Below.drew ?_ | refine below_drewN' ?_ _))) (hbel.mono (by simp; omega)); have hcz := hbel.size; simp only [World.size_alloc] at hcz hlow)
    | (go_at_call 28; (with_reducible refine (lo_find_ch _ (HV.out.on (by (repeat (first | exact Below.refl _ _ | assumption | refine Below.setCell ?_ (by first | omega | (simp <;> omega)) _ | refine Below.alloc ?_ (by first | omega | (simp <;> omega)) _ | refine Below.drew ?_ | refine below_drewN' ?_ _))))).mono ?_); rintro e w2 ⟨b2, rfl, hlow2, hs2, hbel2⟩; simp only [LV, tx, Lc.ch, if_true, if_false, Bool.false_eq_true]))
  obtain ⟨W, hW⟩ : ∃ W, W = w2.alloc (.cells #[.string ⟨#[99, 104]⟩, .string ⟨#[46]⟩, .string ⟨#[226, 128, 153]⟩, .string ⟨#[59]⟩, .string ⟨#[45]⟩, .string ⟨#[37]⟩, .string ⟨#[67, 72, 70]⟩, .bool true, .bool true, .slice (some ⟨b2, 0, none⟩) 1 1] 25) := ⟨_, rfl⟩
  have hWs : W.heap.size = w2.heap.size + 1 := by rw [hW]; simp
  have hBW : Below w.heap.size w W := by rw [hW]; exact ((hB_w1.alloc hB_w1.size _).trans (hbel2.mono (by simp; omega))).alloc (by have := hbel2.size; simp at this; omega) _
  have hB2 : Below w1.heap.size w1 w2 := Below.trans ((Below.refl _ _).alloc (Nat.le_refl _) _) (hbel2.mono (by simp))
  have ga0 : W.cell? ⟨w.heap.size, 0, none⟩ = some (.string ⟨#[]⟩) := by
    rw [hW]; exact (cell_alloc_old (by have := hbel2.size; simp at this; omega)).trans ((hB2.cell (p := ⟨w.heap.size, 0, none⟩) (show w.heap.size < w1.heap.size by omega)).trans (((bcell hbel).1 (w.heap.size) 0 (by simp; try omega)).trans (by simp [go_sem])))
  have fga0 : W.frozen? ⟨w.heap.size, 0, none⟩ = false := by
    rw [hW]; exact (frozen_alloc_old (by have := hbel2.size; simp at this; omega)).trans ((hB2.frozen (p := ⟨w.heap.size, 0, none⟩) (show w.heap.size < w1.heap.size by omega)).trans (((bcell hbel).2 (w.heap.size) 0 (by simp; try omega)).trans (by simp [go_sem])))
  have gb0 : W.cell? ⟨w.heap.size + 1, 0, none⟩ = some (.string ⟨#[]⟩) := by
    rw [hW]; exact (cell_alloc_old (by have := hbel2.size; simp at this; omega)).trans ((hB2.cell (p := ⟨w.heap.size + 1, 0, none⟩) (show w.heap.size + 1 < w1.heap.size by omega)).trans (((bcell hbel).1 (w.heap.size + 1) 0 (by simp; try omega)).trans (by simp [go_sem])))
  have fgb0 : W.frozen? ⟨w.heap.size + 1, 0, none⟩ = false := by
    rw [hW]; exact (frozen_alloc_old (by have := hbel2.size; simp at this; omega)).trans ((hB2.frozen (p := ⟨w.heap.size + 1, 0, none⟩) (show w.heap.size + 1 < w1.heap.size by omega)).trans (((bcell hbel).2 (w.heap.size + 1) 0 (by simp; try omega)).trans (by simp [go_sem])))
  have gc0 : W.cell? ⟨w1.heap.size, 0, none⟩ = some (.string ⟨#[99, 104]⟩) := by
    rw [hW]; exact (cell_alloc_old (by have := hbel2.size; simp at this; omega)).trans ((hbel2.cell (p := ⟨w1.heap.size, 0, none⟩) (by simp)).trans (by simp [go_sem]))
  have gd0 : W.cell? ⟨w2.heap.size, 0, none⟩ = some (.string ⟨#[99, 104]⟩) := by rw [hW]; simp [go_sem]
  have ga1 : W.cell? ⟨w.heap.size, 1, none⟩ = some (.string ⟨#[]⟩) := by
    rw [hW]; exact (cell_alloc_old (by have := hbel2.size; simp at this; omega)).trans ((hB2.cell (p := ⟨w.heap.size, 1, none⟩) (show w.heap.size < w1.heap.size by omega)).trans (((bcell hbel).1 (w.heap.size) 1 (by simp; try omega)).trans (by simp [go_sem])))
  have fga1 : W.frozen? ⟨w.heap.size, 1, none⟩ = false := by
    rw [hW]; exact (frozen_alloc_old (by have := hbel2.size; simp at this; omega)).trans ((hB2.frozen (p := ⟨w.heap.size, 1, none⟩) (show w.heap.size < w1.heap.size by omega)).trans (((bcell hbel).2 (w.heap.size) 1 (by simp; try omega)).trans (by simp [go_sem])))
  have gb1 : W.cell? ⟨w.heap.size + 1, 1, none⟩ = some (.string ⟨#[]⟩) := by
    rw [hW]; exact (cell_alloc_old (by have := hbel2.size; simp at this; omega)).trans ((hB2.cell (p := ⟨w.heap.size + 1, 1, none⟩) (show w.heap.size + 1 < w1.heap.size by omega)).trans (((bcell hbel).1 (w.heap.size + 1) 1 (by simp; try omega)).trans (by simp [go_sem])))
  have fgb1 : W.frozen? ⟨w.heap.size + 1, 1, none⟩ = false := by
    rw [hW]; exact (frozen_alloc_old (by have := hbel2.size; simp at this; omega)).trans ((hB2.frozen (p := ⟨w.heap.size + 1, 1, none⟩) (show w.heap.size + 1 < w1.heap.size by omega)).trans (((bcell hbel).2 (w.heap.size + 1) 1 (by simp; try omega)).trans (by simp [go_sem])))
  have gc1 : W.cell? ⟨w1.heap.size, 1, none⟩ = some (.string ⟨#[46]⟩) := by
    rw [hW]; exact (cell_alloc_old (by have := hbel2.size; simp at this; omega)).trans ((hbel2.cell (p := ⟨w1.heap.size, 1, none⟩) (by simp)).trans (by simp [go_sem]))
  have gd1 : W.cell? ⟨w2.heap.size, 1, none⟩ = some (.string ⟨#[46]⟩) := by rw [hW]; simp [go_sem]
  have ga2 : W.cell? ⟨w.heap.size, 2, none⟩ = some (.string ⟨#[]⟩) := by
    rw [hW]; exact (cell_alloc_old (by have := hbel2.size; simp at this; omega)).trans ((hB2.cell (p := ⟨w.heap.size, 2, none⟩) (show w.heap.size < w1.heap.size by omega)).trans (((bcell hbel).1 (w.heap.size) 2 (by simp; try omega)).trans (by simp [go_sem])))
  have fga2 : W.frozen? ⟨w.heap.size, 2, none⟩ = false := by
    rw [hW]; exact (frozen_alloc_old (by have := hbel2.size; simp at this; omega)).trans ((hB2.frozen (p := ⟨w.heap.size, 2, none⟩) (show w.heap.size < w1.heap.size by omega)).trans (((bcell hbel).2 (w.heap.size) 2 (by simp; try omega)).trans (by simp [go_sem])))
  have gb2 : W.cell? ⟨w.heap.size + 1, 2, none⟩ = some (.string ⟨#[]⟩) := by
    rw [hW]; exact (cell_alloc_old (by have := hbel2.size; simp at this; omega)).trans ((hB2.cell (p := ⟨w.heap.size + 1, 2, none⟩) (show w.heap.size + 1 < w1.heap.size by omega)).trans (((bcell hbel).1 (w.heap.size + 1) 2 (by simp; try omega)).trans (by simp [go_sem])))
  have fgb2 : W.frozen? ⟨w.heap.size + 1, 2, none⟩ = false := by
    rw [hW]; exact (frozen_alloc_old (by have := hbel2.size; simp at this; omega)).trans ((hB2.frozen (p := ⟨w.heap.size + 1, 2, none⟩) (show w.heap.size + 1 < w1.heap.size by omega)).trans (((bcell hbel).2 (w.heap.size + 1) 2 (by simp; try omega)).trans (by simp [go_sem])))
  have gc2 : W.cell? ⟨w1.heap.size, 2, none⟩ = some (.string ⟨#[226, 128, 153]⟩) := by
    rw [hW]; exact (cell_alloc_old (by have := hbel2.size; simp at this; omega)).trans ((hbel2.cell (p := ⟨w1.heap.size, 2, none⟩) (by simp)).trans (by simp [go_sem]))
  have gd2 : W.cell? ⟨w2.heap.size, 2, none⟩ = some (.string ⟨#[226, 128, 153]⟩) := by rw [hW]; simp [go_sem]
  have ga3 : W.cell? ⟨w.heap.size, 3, none⟩ = some (.string ⟨#[]⟩) := by
    rw [hW]; exact (cell_alloc_old (by have := hbel2.size; simp at this; omega)).trans ((hB2.cell (p := ⟨w.heap.size, 3, none⟩) (show w.heap.size < w1.heap.size by omega)).trans (((bcell hbel).1 (w.heap.size) 3 (by simp; try omega)).trans (by simp [go_sem])))
  have fga3 : W.frozen? ⟨w.heap.size, 3, none⟩ = false := by
    rw [hW]; exact (frozen_alloc_old (by have := hbel2.size; simp at this; omega)).trans ((hB2.frozen (p := ⟨w.heap.size, 3, none⟩) (show w.heap.size < w1.heap.size by omega)).trans (((bcell hbel).2 (w.heap.size) 3 (by simp; try omega)).trans (by simp [go_sem])))
  have gb3 : W.cell? ⟨w.heap.size + 1, 3, none⟩ = some (.string ⟨#[]⟩) := by
    rw [hW]; exact (cell_alloc_old (by have := hbel2.size; simp at this; omega)).trans ((hB2.cell (p := ⟨w.heap.size + 1, 3, none⟩) (show w.heap.size + 1 < w1.heap.size by omega)).trans (((bcell hbel).1 (w.heap.size + 1) 3 (by simp; try omega)).trans (by simp [go_sem])))
  have fgb3 : W.frozen? ⟨w.heap.size + 1, 3, none⟩ = false := by
    rw [hW]; exact (frozen_alloc_old (by have := hbel2.size; simp at this; omega)).trans ((hB2.frozen (p := ⟨w.heap.size + 1, 3, none⟩) (show w.heap.size + 1 < w1.heap.size by omega)).trans (((bcell hbel).2 (w.heap.size + 1) 3 (by simp; try omega)).trans (by simp [go_sem])))
  have gc3 : W.cell? ⟨w1.heap.size, 3, none⟩ = some (.string ⟨#[59]⟩) := by
    rw [hW]; exact (cell_alloc_old (by have := hbel2.size; simp at this; omega)).trans ((hbel2.cell (p := ⟨w1.heap.size, 3, none⟩) (by simp)).trans (by simp [go_sem]))
  have gd3 : W.cell? ⟨w2.heap.size, 3, none⟩ = some (.string ⟨#[59]⟩) := by rw [hW]; simp [go_sem]
  have ga4 : W.cell? ⟨w.heap.size, 4, none⟩ = some (.string ⟨#[]⟩) := by
    rw [hW]; exact (cell_alloc_old (by have := hbel2.size; simp at this; omega)).trans ((hB2.cell (p := ⟨w.heap.size, 4, none⟩) (show w.heap.size < w1.heap.size by omega)).trans (((bcell hbel).1 (w.heap.size) 4 (by simp; try omega)).trans (by simp [go_sem])))
  have fga4 : W.frozen? ⟨w.heap.size, 4, none⟩ = false := by
    rw [hW]; exact (frozen_alloc_old (by have := hbel2.size; simp at this; omega)).trans ((hB2.frozen (p := ⟨w.heap.size, 4, none⟩) (show w.heap.size < w1.heap.size by omega)).trans (((bcell hbel).2 (w.heap.size) 4 (by simp; try omega)).trans (by simp [go_sem])))
  have gb4 : W.cell? ⟨w.heap.size + 1, 4, none⟩ = some (.string ⟨#[]⟩) := by
    rw [hW]; exact (cell_alloc_old (by have := hbel2.size; simp at this; omega)).trans ((hB2.cell (p := ⟨w.heap.size + 1, 4, none⟩) (show w.heap.size + 1 < w1.heap.size by omega)).trans (((bcell hbel).1 (w.heap.size + 1) 4 (by simp; try omega)).trans (by simp [go_sem])))
  have fgb4 : W.frozen? ⟨w.heap.size + 1, 4, none⟩ = false := by
    rw [hW]; exact (frozen_alloc_old (by have := hbel2.size; simp at this; omega)).trans ((hB2.frozen (p := ⟨w.heap.size + 1, 4, none⟩) (show w.heap.size + 1 < w1.heap.size by omega)).trans (((bcell hbel).2 (w.heap.size + 1) 4 (by simp; try omega)).trans (by simp [go_sem])))
  have gc4 : W.cell? ⟨w1.heap.size, 4, none⟩ = some (.string ⟨#[45]⟩) := by
    rw [hW]; exact (cell_alloc_old (by have := hbel2.size; simp at this; omega)).trans ((hbel2.cell (p := ⟨w1.heap.size, 4, none⟩) (by simp)).trans (by simp [go_sem]))
  have gd4 : W.cell? ⟨w2.heap.size, 4, none⟩ = some (.string ⟨#[45]⟩) := by rw [hW]; simp [go_sem]
  have ga5 : W.cell? ⟨w.heap.size, 5, none⟩ = some (.string ⟨#[]⟩) := by
    rw [hW]; exact (cell_alloc_old (by have := hbel2.size; simp at this; omega)).trans ((hB2.cell (p := ⟨w.heap.size, 5, none⟩) (show w.heap.size < w1.heap.size by omega)).trans (((bcell hbel).1 (w.heap.size) 5 (by simp; try omega)).trans (by simp [go_sem])))
  have fga5 : W.frozen? ⟨w.heap.size, 5, none⟩ = false := by
    rw [hW]; exact (frozen_alloc_old (by have := hbel2.size; simp at this; omega)).trans ((hB2.frozen (p := ⟨w.heap.size, 5, none⟩) (show w.heap.size < w1.heap.size by omega)).trans (((bcell hbel).2 (w.heap.size) 5 (by simp; try omega)).trans (by simp [go_sem])))
  have gb5 : W.cell? ⟨w.heap.size + 1, 5, none⟩ = some (.string ⟨#[]⟩) := by
    rw [hW]; exact (cell_alloc_old (by have := hbel2.size; simp at this; omega)).trans ((hB2.cell (p := ⟨w.heap.size + 1, 5, none⟩) (show w.heap.size + 1 < w1.heap.size by omega)).trans (((bcell hbel).1 (w.heap.size + 1) 5 (by simp; try omega)).trans (by simp [go_sem])))
  have fgb5 : W.frozen? ⟨w.heap.size + 1, 5, none⟩ = false := by
    rw [hW]; exact (frozen_alloc_old (by have := hbel2.size; simp at this; omega)).trans ((hB2.frozen (p := ⟨w.heap.size + 1, 5, none⟩) (show w.heap.size + 1 < w1.heap.size by omega)).trans (((bcell hbel).2 (w.heap.size + 1) 5 (by simp; try omega)).trans (by simp [go_sem])))
  have gc5 : W.cell? ⟨w1.heap.size, 5, none⟩ = some (.string ⟨#[37]⟩) := by
    rw [hW]; exact (cell_alloc_old (by have := hbel2.size; simp at this; omega)).trans ((hbel2.cell (p := ⟨w1.heap.size, 5, none⟩) (by simp)).trans (by simp [go_sem]))
  have gd5 : W.cell? ⟨w2.heap.size, 5, none⟩ = some (.string ⟨#[37]⟩) := by rw [hW]; simp [go_sem]
  have ga6 : W.cell? ⟨w.heap.size, 6, none⟩ = some (.string ⟨#[]⟩) := by
    rw [hW]; exact (cell_alloc_old (by have := hbel2.size; simp at this; omega)).trans ((hB2.cell (p := ⟨w.heap.size, 6, none⟩) (show w.heap.size < w1.heap.size by omega)).trans (((bcell hbel).1 (w.heap.size) 6 (by simp; try omega)).trans (by simp [go_sem])))
  have fga6 : W.frozen? ⟨w.heap.size, 6, none⟩ = false := by
    rw [hW]; exact (frozen_alloc_old (by have := hbel2.size; simp at this; omega)).trans ((hB2.frozen (p := ⟨w.heap.size, 6, none⟩) (show w.heap.size < w1.heap.size by omega)).trans (((bcell hbel).2 (w.heap.size) 6 (by simp; try omega)).trans (by simp [go_sem])))
  have gb6 : W.cell? ⟨w.heap.size + 1, 6, none⟩ = some (.string ⟨#[]⟩) := by
    rw [hW]; exact (cell_alloc_old (by have := hbel2.size; simp at this; omega)).trans ((hB2.cell (p := ⟨w.heap.size + 1, 6, none⟩) (show w.heap.size + 1 < w1.heap.size by omega)).trans (((bcell hbel).1 (w.heap.size + 1) 6 (by simp; try omega)).trans (by simp [go_sem])))
  have fgb6 : W.frozen? ⟨w.heap.size + 1, 6, none⟩ = false := by
    rw [hW]; exact (frozen_alloc_old (by have := hbel2.size; simp at this; omega)).trans ((hB2.frozen (p := ⟨w.heap.size + 1, 6, none⟩) (show w.heap.size + 1 < w1.heap.size by omega)).trans (((bcell hbel).2 (w.heap.size + 1) 6 (by simp; try omega)).trans (by simp [go_sem])))
  have gc6 : W.cell? ⟨w1.heap.size, 6, none⟩ = some (.string ⟨#[67, 72, 70]⟩) := by
    rw [hW]; exact (cell_alloc_old (by have := hbel2.size; simp at this; omega)).trans ((hbel2.cell (p := ⟨w1.heap.size, 6, none⟩) (by simp)).trans (by simp [go_sem]))
  have gd6 : W.cell? ⟨w2.heap.size, 6, none⟩ = some (.string ⟨#[67, 72, 70]⟩) := by rw [hW]; simp [go_sem]
  have ga7 : W.cell? ⟨w.heap.size, 7, none⟩ = some (.bool false) := by
    rw [hW]; exact (cell_alloc_old (by have := hbel2.size; simp at this; omega)).trans ((hB2.cell (p := ⟨w.heap.size, 7, none⟩) (show w.heap.size < w1.heap.size by omega)).trans (((bcell hbel).1 (w.heap.size) 7 (by simp; try omega)).trans (by simp [go_sem])))
  have fga7 : W.frozen? ⟨w.heap.size, 7, none⟩ = false := by
    rw [hW]; exact (frozen_alloc_old (by have := hbel2.size; simp at this; omega)).trans ((hB2.frozen (p := ⟨w.heap.size, 7, none⟩) (show w.heap.size < w1.heap.size by omega)).trans (((bcell hbel).2 (w.heap.size) 7 (by simp; try omega)).trans (by simp [go_sem])))
  have gb7 : W.cell? ⟨w.heap.size + 1, 7, none⟩ = some (.bool false) := by
    rw [hW]; exact (cell_alloc_old (by have := hbel2.size; simp at this; omega)).trans ((hB2.cell (p := ⟨w.heap.size + 1, 7, none⟩) (show w.heap.size + 1 < w1.heap.size by omega)).trans (((bcell hbel).1 (w.heap.size + 1) 7 (by simp; try omega)).trans (by simp [go_sem])))
  have fgb7 : W.frozen? ⟨w.heap.size + 1, 7, none⟩ = false := by
    rw [hW]; exact (frozen_alloc_old (by have := hbel2.size; simp at this; omega)).trans ((hB2.frozen (p := ⟨w.heap.size + 1, 7, none⟩) (show w.heap.size + 1 < w1.heap.size by omega)).trans (((bcell hbel).2 (w.heap.size + 1) 7 (by simp; try omega)).trans (by simp [go_sem])))
  have gc7 : W.cell? ⟨w1.heap.size, 7, none⟩ = some (.bool true) := by
    rw [hW]; exact (cell_alloc_old (by have := hbel2.size; simp at this; omega)).trans ((hbel2.cell (p := ⟨w1.heap.size, 7, none⟩) (by simp)).trans (by simp [go_sem]))
  have gd7 : W.cell? ⟨w2.heap.size, 7, none⟩ = some (.bool true) := by rw [hW]; simp [go_sem]
  have ga8 : W.cell? ⟨w.heap.size, 8, none⟩ = some (.bool false) := by
    rw [hW]; exact (cell_alloc_old (by have := hbel2.size; simp at this; omega)).trans ((hB2.cell (p := ⟨w.heap.size, 8, none⟩) (show w.heap.size < w1.heap.size by omega)).trans (((bcell hbel).1 (w.heap.size) 8 (by simp; try omega)).trans (by simp [go_sem])))
  have fga8 : W.frozen? ⟨w.heap.size, 8, none⟩ = false := by
    rw [hW]; exact (frozen_alloc_old (by have := hbel2.size; simp at this; omega)).trans ((hB2.frozen (p := ⟨w.heap.size, 8, none⟩) (show w.heap.size < w1.heap.size by omega)).trans (((bcell hbel).2 (w.heap.size) 8 (by simp; try omega)).trans (by simp [go_sem])))
  have gb8 : W.cell? ⟨w.heap.size + 1, 8, none⟩ = some (.bool false) := by
    rw [hW]; exact (cell_alloc_old (by have := hbel2.size; simp at this; omega)).trans ((hB2.cell (p := ⟨w.heap.size + 1, 8, none⟩) (show w.heap.size + 1 < w1.heap.size by omega)).trans (((bcell hbel).1 (w.heap.size + 1) 8 (by simp; try omega)).trans (by simp [go_sem])))
  have fgb8 : W.frozen? ⟨w.heap.size + 1, 8, none⟩ = false := by
    rw [hW]; exact (frozen_alloc_old (by have := hbel2.size; simp at this; omega)).trans ((hB2.frozen (p := ⟨w.heap.size + 1, 8, none⟩) (show w.heap.size + 1 < w1.heap.size by omega)).trans (((bcell hbel).2 (w.heap.size + 1) 8 (by simp; try omega)).trans (by simp [go_sem])))
  have gc8 : W.cell? ⟨w1.heap.size, 8, none⟩ = some (.bool true) := by
    rw [hW]; exact (cell_alloc_old (by have := hbel2.size; simp at this; omega)).trans ((hbel2.cell (p := ⟨w1.heap.size, 8, none⟩) (by simp)).trans (by simp [go_sem]))
  have gd8 : W.cell? ⟨w2.heap.size, 8, none⟩ = some (.bool true) := by rw [hW]; simp [go_sem]
  have ga9 : W.cell? ⟨w.heap.size, 9, none⟩ = some (.slice none 0 0) := by
    rw [hW]; exact (cell_alloc_old (by have := hbel2.size; simp at this; omega)).trans ((hB2.cell (p := ⟨w.heap.size, 9, none⟩) (show w.heap.size < w1.heap.size by omega)).trans (((bcell hbel).1 (w.heap.size) 9 (by simp; try omega)).trans (by simp [go_sem])))
  have fga9 : W.frozen? ⟨w.heap.size, 9, none⟩ = false := by
    rw [hW]; exact (frozen_alloc_old (by have := hbel2.size; simp at this; omega)).trans ((hB2.frozen (p := ⟨w.heap.size, 9, none⟩) (show w.heap.size < w1.heap.size by omega)).trans (((bcell hbel).2 (w.heap.size) 9 (by simp; try omega)).trans (by simp [go_sem])))
  have gb9 : W.cell? ⟨w.heap.size + 1, 9, none⟩ = some (.int .i64 0) := by
    rw [hW]; exact (cell_alloc_old (by have := hbel2.size; simp at this; omega)).trans ((hB2.cell (p := ⟨w.heap.size + 1, 9, none⟩) (show w.heap.size + 1 < w1.heap.size by omega)).trans (((bcell hbel).1 (w.heap.size + 1) 9 (by simp; try omega)).trans (by simp [go_sem])))
  have fgb9 : W.frozen? ⟨w.heap.size + 1, 9, none⟩ = false := by
    rw [hW]; exact (frozen_alloc_old (by have := hbel2.size; simp at this; omega)).trans ((hB2.frozen (p := ⟨w.heap.size + 1, 9, none⟩) (show w.heap.size + 1 < w1.heap.size by omega)).trans (((bcell hbel).2 (w.heap.size + 1) 9 (by simp; try omega)).trans (by simp [go_sem])))
  have gc9 : W.cell? ⟨w1.heap.size, 9, none⟩ = some (.int .i64 3) := by
    rw [hW]; exact (cell_alloc_old (by have := hbel2.size; simp at this; omega)).trans ((hbel2.cell (p := ⟨w1.heap.size, 9, none⟩) (by simp)).trans (by simp [go_sem]))
  have gd9 : W.cell? ⟨w2.heap.size, 9, none⟩ = some (.slice (some ⟨b2, 0, none⟩) 1 1) := by rw [hW]; simp [go_sem]
  rw [← hW]
  have hsz := hbel2.size
  simp only [World.size_alloc] at hsz
  have hWc : ∀ k, W.cell? ⟨b2, k, none⟩ = w2.cell? ⟨b2, k, none⟩ := fun k => by rw [hW]; exact cell_alloc_old hs2.1
  have HWC := Lib.hid hWc
  have hb2 : b2 < w2.heap.size := hs2.1
  have HS2 := Lib.hid hs2; have HBW := Lib.hid hBW
  simp only [World.size_alloc] at hlow2
  clear hWc hW hs2 hBW hB2 hbel2 hbel hB_w1
  go_region
  go_wp2
  obtain ⟨X, hX⟩ : ∃ X, X = ((W.setCells w.heap.size 0 [.string ⟨#[99, 104]⟩, .string ⟨#[46]⟩, .string ⟨#[226, 128, 153]⟩, .string ⟨#[59]⟩, .string ⟨#[45]⟩, .string ⟨#[37]⟩, .string ⟨#[67, 72, 70]⟩, .bool true, .bool true, .slice (some ⟨b2, 0, none⟩) 1 1]).setCells (w.heap.size + 1) 0 [.string ⟨#[99, 104]⟩, .string ⟨#[46]⟩, .string ⟨#[226, 128, 153]⟩, .string ⟨#[59]⟩, .string ⟨#[45]⟩, .string ⟨#[37]⟩, .string ⟨#[67, 72, 70]⟩, .bool true, .bool true, .int .i64 3]).drew := ⟨_, rfl⟩
  have hcP := World.cell?_setCells_in w.heap.size [.string ⟨#[99, 104]⟩, .string ⟨#[46]⟩, .string ⟨#[226, 128, 153]⟩, .string ⟨#[59]⟩, .string ⟨#[45]⟩, .string ⟨#[37]⟩, .string ⟨#[67, 72, 70]⟩, .bool true, .bool true, .slice (some ⟨b2, 0, none⟩) 1 1] 0 W (by intro i hi; match i, hi with | 0, _ => exact Option.isSome_of_eq_some ga0 | 1, _ => exact Option.isSome_of_eq_some ga1 | 2, _ => exact Option.isSome_of_eq_some ga2 | 3, _ => exact Option.isSome_of_eq_some ga3 | 4, _ => exact Option.isSome_of_eq_some ga4 | 5, _ => exact Option.isSome_of_eq_some ga5 | 6, _ => exact Option.isSome_of_eq_some ga6 | 7, _ => exact Option.isSome_of_eq_some ga7 | 8, _ => exact Option.isSome_of_eq_some ga8 | 9, _ => exact Option.isSome_of_eq_some ga9 | n + 10, h => exact absurd h (by simp))
  have hcR := World.cell?_setCells_in (w.heap.size + 1) [.string ⟨#[99, 104]⟩, .string ⟨#[46]⟩, .string ⟨#[226, 128, 153]⟩, .string ⟨#[59]⟩, .string ⟨#[45]⟩, .string ⟨#[37]⟩, .string ⟨#[67, 72, 70]⟩, .bool true, .bool true, .int .i64 3] 0 (W.setCells w.heap.size 0 [.string ⟨#[99, 104]⟩, .string ⟨#[46]⟩, .string ⟨#[226, 128, 153]⟩, .string ⟨#[59]⟩, .string ⟨#[45]⟩, .string ⟨#[37]⟩, .string ⟨#[67, 72, 70]⟩, .bool true, .bool true, .slice (some ⟨b2, 0, none⟩) 1 1]) (by
    intro i hi
    rw [World.cell?_setCells_out _ _ _ _ _ (fun e => absurd e (by simp))]
    match i, hi with | 0, _ => exact Option.isSome_of_eq_some gb0 | 1, _ => exact Option.isSome_of_eq_some gb1 | 2, _ => exact Option.isSome_of_eq_some gb2 | 3, _ => exact Option.isSome_of_eq_some gb3 | 4, _ => exact Option.isSome_of_eq_some gb4 | 5, _ => exact Option.isSome_of_eq_some gb5 | 6, _ => exact Option.isSome_of_eq_some gb6 | 7, _ => exact Option.isSome_of_eq_some gb7 | 8, _ => exact Option.isSome_of_eq_some gb8 | 9, _ => exact Option.isSome_of_eq_some gb9 | n + 10, h => exact absurd h (by simp))
  have hother : ∀ k, X.cell? ⟨b2, k, none⟩ = W.cell? ⟨b2, k, none⟩ := fun k => by
    rw [hX, cell_drew1, World.cell?_setCells_out _ _ _ _ _ (fun e => absurd e (by simp; omega)), World.cell?_setCells_out _ _ _ _ _ (fun e => absurd e (by simp; omega))]
  have hXs : X.heap.size = W.heap.size := by rw [hX, size_drew', size_setCells, size_setCells]
  have hXB : Below w.heap.size w X := by rw [hX]; exact (below_setCells (Nat.le_succ _) _ _ (below_setCells (Nat.le_refl _) _ _ HBW.out)).drew
  have ea0 : X.cell? ⟨w.heap.size, 0, none⟩ = some (.string ⟨#[99, 104]⟩) := by
    rw [hX, cell_drew1, World.cell?_setCells_out _ _ _ _ _ (fun e => absurd e (by simp))]; exact hcP 0 (by simp)
  have eb0 : X.cell? ⟨w.heap.size + 1, 0, none⟩ = some (.string ⟨#[99, 104]⟩) := by
    rw [hX, cell_drew1]; exact hcR 0 (by simp)
  have ea1 : X.cell? ⟨w.heap.size, 1, none⟩ = some (.string ⟨#[46]⟩) := by
    rw [hX, cell_drew1, World.cell?_setCells_out _ _ _ _ _ (fun e => absurd e (by simp))]; exact hcP 1 (by simp)
  have eb1 : X.cell? ⟨w.heap.size + 1, 1, none⟩ = some (.string ⟨#[46]⟩) := by
    rw [hX, cell_drew1]; exact hcR 1 (by simp)
  have ea2 : X.cell? ⟨w.heap.size, 2, none⟩ = some (.string ⟨#[226, 128, 153]⟩) := by
    rw [hX, cell_drew1, World.cell?_setCells_out _ _ _ _ _ (fun e => absurd e (by simp))]; exact hcP 2 (by simp)
  have eb2 : X.cell? ⟨w.heap.size + 1, 2, none⟩ = some (.string ⟨#[226, 128, 153]⟩) := by
    rw [hX, cell_drew1]; exact hcR 2 (by simp)
  have ea3 : X.cell? ⟨w.heap.size, 3, none⟩ = some (.string ⟨#[59]⟩) := by
    rw [hX, cell_drew1, World.cell?_setCells_out _ _ _ _ _ (fun e => absurd e (by simp))]; exact hcP 3 (by simp)
  have eb3 : X.cell? ⟨w.heap.size + 1, 3, none⟩ = some (.string ⟨#[59]⟩) := by
    rw [hX, cell_drew1]; exact hcR 3 (by simp)
  have ea4 : X.cell? ⟨w.heap.size, 4, none⟩ = some (.string ⟨#[45]⟩) := by
    rw [hX, cell_drew1, World.cell?_setCells_out _ _ _ _ _ (fun e => absurd e (by simp))]; exact hcP 4 (by simp)
  have eb4 : X.cell? ⟨w.heap.size + 1, 4, none⟩ = some (.string ⟨#[45]⟩) := by
    rw [hX, cell_drew1]; exact hcR 4 (by simp)
  have ea5 : X.cell? ⟨w.heap.size, 5, none⟩ = some (.string ⟨#[37]⟩) := by
    rw [hX, cell_drew1, World.cell?_setCells_out _ _ _ _ _ (fun e => absurd e (by simp))]; exact hcP 5 (by simp)
  have eb5 : X.cell? ⟨w.heap.size + 1, 5, none⟩ = some (.string ⟨#[37]⟩) := by
    rw [hX, cell_drew1]; exact hcR 5 (by simp)
  have ea6 : X.cell? ⟨w.heap.size, 6, none⟩ = some (.string ⟨#[67, 72, 70]⟩) := by
    rw [hX, cell_drew1, World.cell?_setCells_out _ _ _ _ _ (fun e => absurd e (by simp))]; exact hcP 6 (by simp)
  have eb6 : X.cell? ⟨w.heap.size + 1, 6, none⟩ = some (.string ⟨#[67, 72, 70]⟩) := by
    rw [hX, cell_drew1]; exact hcR 6 (by simp)
  have ea7 : X.cell? ⟨w.heap.size, 7, none⟩ = some (.bool true) := by
    rw [hX, cell_drew1, World.cell?_setCells_out _ _ _ _ _ (fun e => absurd e (by simp))]; exact hcP 7 (by simp)
  have eb7 : X.cell? ⟨w.heap.size + 1, 7, none⟩ = some (.bool true) := by
    rw [hX, cell_drew1]; exact hcR 7 (by simp)
  have ea8 : X.cell? ⟨w.heap.size, 8, none⟩ = some (.bool true) := by
    rw [hX, cell_drew1, World.cell?_setCells_out _ _ _ _ _ (fun e => absurd e (by simp))]; exact hcP 8 (by simp)
  have eb8 : X.cell? ⟨w.heap.size + 1, 8, none⟩ = some (.bool true) := by
    rw [hX, cell_drew1]; exact hcR 8 (by simp)
  have ea9 : X.cell? ⟨w.heap.size, 9, none⟩ = some (.slice (some ⟨b2, 0, none⟩) 1 1) := by
    rw [hX, cell_drew1, World.cell?_setCells_out _ _ _ _ _ (fun e => absurd e (by simp))]; exact hcP 9 (by simp)
  have eb9 : X.cell? ⟨w.heap.size + 1, 9, none⟩ = some (.int .i64 3) := by
    rw [hX, cell_drew1]; exact hcR 9 (by simp)
  change bodyPost _ _ _ _ _ ((W.setCells w.heap.size 0 [.string ⟨#[99, 104]⟩, .string ⟨#[46]⟩, .string ⟨#[226, 128, 153]⟩, .string ⟨#[59]⟩, .string ⟨#[45]⟩, .string ⟨#[37]⟩, .string ⟨#[67, 72, 70]⟩, .bool true, .bool true, .slice (some ⟨b2, 0, none⟩) 1 1]).setCells (w.heap.size + 1) 0 [.string ⟨#[99, 104]⟩, .string ⟨#[46]⟩, .string ⟨#[226, 128, 153]⟩, .string ⟨#[59]⟩, .string ⟨#[45]⟩, .string ⟨#[37]⟩, .string ⟨#[67, 72, 70]⟩, .bool true, .bool true, .int .i64 3]).drew
  rw [← hX]
  have hszs : Szs X b2 Lc.ch := by
    obtain ⟨h1, h2, h3⟩ := HS2.out
    have hk : ∀ k, X.cell? ⟨b2, k, none⟩ = w2.cell? ⟨b2, k, none⟩ := fun k => (hother k).trans (HWC.out k)
    exact ⟨by omega, (hk 0).trans h2, fun e => (hk 1).trans (h3 e)⟩
  clear hX hcP hcR hother ga0 ga1 ga2 ga3 ga4 ga5 ga6 ga7 ga8 ga9 gb0 gb1 gb2 gb3 gb4 gb5 gb6 gb7 gb8 gb9 gc0 gc1 gc2 gc3 gc4 gc5 gc6 gc7 gc8 gc9 gd0 gd1 gd2 gd3 gd4 gd5 gd6 gd7 gd8 gd9 fga0 fga1 fga2 fga3 fga4 fga5 fga6 fga7 fga8 fga9 fgb0 fgb1 fgb2 fgb3 fgb4 fgb5 fgb6 fgb7 fgb8 fgb9
  (refine bodyPost_ret (v := .tuple #[LV b2 Lc.ch, RV Lc.ch]) (by simp [results, Tryd.results13, go_sem, RV, LV, tx, Lc.ch, Lc.Loc.second, ea0, eb0, ea1, eb1, ea2, eb2, ea3, eb3, ea4, eb4, ea5, eb5, ea6, eb6, ea7, eb7, ea8, eb8, ea9, eb9]; done) rfl ⟨b2, rfl, by omega, hszs, hXB⟩)

set_option maxRecDepth 100000 in
set_option maxHeartbeats 4000000 in
theorem l11_find_de (c : Int) (w : World) (hv : Vars w) (hc : -9223372036854775808 ≤ c ∧ c ≤ 9223372036854775807) (hp : pickC c = 1) : Calls Tryd.prog 13 #[.int .i64 c] w (Find2 Lc.de w) := by
  have hpk := fun w => l11_pick_any c w hc
  rw [hp] at hpk
  have HPK := Lib.hid hpk; have HV := Lib.hid hv
  clear hpk hv hp hc
  go_enter Tryd.func13, Tryd.ntmps13
  go_wp2_with (first
    | (go_at_call 41; (with_reducible refine (HPK.out _).mono ?_); rintro e w' ⟨rfl, rfl⟩)
    | (go_at_call 27; (with_reducible refine (r11_all_any _).mono ?_); rintro e w1 ⟨b, rfl, hlow, ⟨hb1, ⟨c0_0, c0_1, c0_2, c0_3, c0_4, c0_5, c0_6, c0_7, c0_8, c0_9⟩, ⟨c1_0, c1_1, c1_2, c1_3, c1_4, c1_5, c1_6, c1_7, c1_8, c1_9⟩, ⟨c2_0, c2_1, c2_2, c2_3, c2_4, c2_5, c2_6, c2_7, c2_8, c2_9⟩, ⟨c3_0, c3_1, c3_2, c3_3, c3_4, c3_5, c3_6, c3_7, c3_8, c3_9⟩, ⟨c4_0, c4_1, c4_2, c4_3, c4_4, c4_5, c4_6, c4_7, c4_8, c4_9⟩, ⟨c5_0, c5_1, c5_2, c5_3, c5_4, c5_5, c5_6, c5_7, c5_8, c5_9⟩⟩, hbel⟩; clear c0_0 c0_1 c0_2 c0_3 c0_4 c0_5 c0_6 c0_7 c0_8 c0_9 c2_0 c2_1 c2_2 c2_3 c2_4 c2_5 c2_6 c2_7 c2_8 c2_9 c3_0 c3_1 c3_2 c3_3 c3_4 c3_5 c3_6 c3_7 c3_8 c3_9 c4_0 c4_1 c4_2 c4_3 c4_4 c4_5 c4_6 c4_7 c4_8 c4_9 c5_0 c5_1 c5_2 c5_3 c5_4 c5_5 c5_6 c5_7 c5_8 c5_9; have hB_w1 : Below w.heap.size w w1 := Below.trans (by (repeat (first | exact Below.refl _ _ | assumption | refine Below.setCell ?_ (by first | omega | (simp <;> omega)) _ | refine Below.alloc ?_ (by first | omega | (simp <;> omega)) _ | refine Below.drew ?_ | refine below_drewN' ?_ _))) (hbel.mono (by simp; omega)); have hcz := hbel.size; simp only [World.size_alloc] at hcz hlow)
    | (go_at_call 28; (with_reducible refine (lo_find_de _ (HV.out.on (by (repeat (first | exact Below.refl _ _ | assumption | refine Below.setCell ?_ (by first | omega | (simp <;> omega)) _ | refine Below.alloc ?_ (by first | omega | (simp <;> omega)) _ | refine Below.drew ?_ | refine below_drewN' ?_ _))))).mono ?_); rintro e w2 ⟨b2, rfl, hlow2, hs2, hbel2⟩; simp only [LV, tx, Lc.de, if_true, if_false, Bool.false_eq_true]))
  obtain ⟨W, hW⟩ : ∃ W, W = w2.alloc (.cells #[.string ⟨#[100, 101]⟩, .string ⟨#[44]⟩, .string ⟨#[46]⟩, .string ⟨#[59]⟩, .string ⟨#[45]⟩, .string ⟨#[37]⟩, .string ⟨#[226, 130, 172]⟩, .bool false, .bool true, .slice (some ⟨b2, 0, none⟩) 1 1] 25) := ⟨_, rfl⟩
  have hWs : W.heap.size = w2.heap.size + 1 := by rw [hW]; simp
  have hBW : Below w.heap.size w W := by rw [hW]; exact ((hB_w1.alloc hB_w1.size _).trans (hbel2.mono (by simp; omega))).alloc (by have := hbel2.size; simp at this; omega) _
  have hB2 : Below w1.heap.size w1 w2 := Below.trans ((Below.refl _ _).alloc (Nat.le_refl _) _) (hbel2.mono (by simp))
  have ga0 : W.cell? ⟨w.heap.size, 0, none⟩ = some (.string ⟨#[]⟩) := by
    rw [hW]; exact (cell_alloc_old (by have := hbel2.size; simp at this; omega)).trans ((hB2.cell (p := ⟨w.heap.size, 0, none⟩) (show w.heap.size < w1.heap.size by omega)).trans (((bcell hbel).1 (w.heap.size) 0 (by simp; try omega)).trans (by simp [go_sem])))
  have fga0 : W.frozen? ⟨w.heap.size, 0, none⟩ = false := by
    rw [hW]; exact (frozen_alloc_old (by have := hbel2.size; simp at this; omega)).trans ((hB2.frozen (p := ⟨w.heap.size, 0, none⟩) (show w.heap.size < w1.heap.size by omega)).trans (((bcell hbel).2 (w.heap.size) 0 (by simp; try omega)).trans (by simp [go_sem])))
  have gb0 : W.cell? ⟨w.heap.size + 1, 0, none⟩ = some (.string ⟨#[]⟩) := by
    rw [hW]; exact (cell_alloc_old (by have := hbel2.size; simp at this; omega)).trans ((hB2.cell (p := ⟨w.heap.size + 1, 0, none⟩) (show w.heap.size + 1 < w1.heap.size by omega)).trans (((bcell hbel).1 (w.heap.size + 1) 0 (by simp; try omega)).trans (by simp [go_sem])))
  have fgb0 : W.frozen? ⟨w.heap.size + 1, 0, none⟩ = false := by
    rw [hW]; exact (frozen_alloc_old (by have := hbel2.size; simp at this; omega)).trans ((hB2.frozen (p := ⟨w.heap.size + 1, 0, none⟩) (show w.heap.size + 1 < w1.heap.size by omega)).trans (((bcell hbel).2 (w.heap.size + 1) 0 (by simp; try omega)).trans (by simp [go_sem])))
  have gc0 : W.cell? ⟨w1.heap.size, 0, none⟩ = some (.string ⟨#[100, 101]⟩) := by
    rw [hW]; exact (cell_alloc_old (by have := hbel2.size; simp at this; omega)).trans ((hbel2.cell (p := ⟨w1.heap.size, 0, none⟩) (by simp)).trans (by simp [go_sem]))
  have gd0 : W.cell? ⟨w2.heap.size, 0, none⟩ = some (.string ⟨#[100, 101]⟩) := by rw [hW]; simp [go_sem]
  have ga1 : W.cell? ⟨w.heap.size, 1, none⟩ = some (.string ⟨#[]⟩) := by
    rw [hW]; exact (cell_alloc_old (by have := hbel2.size; simp at this; omega)).trans ((hB2.cell (p := ⟨w.heap.size, 1, none⟩) (show w.heap.size < w1.heap.size by omega)).trans (((bcell hbel).1 (w.heap.size) 1 (by simp; try omega)).trans (by simp [go_sem])))
  have fga1 : W.frozen? ⟨w.heap.size, 1, none⟩ = false := by
    rw [hW]; exact (frozen_alloc_old (by have := hbel2.size; simp at this; omega)).trans ((hB2.frozen (p := ⟨w.heap.size, 1, none⟩) (show w.heap.size < w1.heap.size by omega)).trans (((bcell hbel).2 (w.heap.size) 1 (by simp; try omega)).trans (by simp [go_sem])))
  have gb1 : W.cell? ⟨w.heap.size + 1, 1, none⟩ = some (.string ⟨#[]⟩) := by
    rw [hW]; exact (cell_alloc_old (by have := hbel2.size; simp at this; omega)).trans ((hB2.cell (p := ⟨w.heap.size + 1, 1, none⟩) (show w.heap.size + 1 < w1.heap.size by omega)).trans (((bcell hbel).1 (w.heap.size + 1) 1 (by simp; try omega)).trans (by simp [go_sem])))
  have fgb1 : W.frozen? ⟨w.heap.size + 1, 1, none⟩ = false := by
    rw [hW]; exact (frozen_alloc_old (by have := hbel2.size; simp at this; omega)).trans ((hB2.frozen (p := ⟨w.heap.size + 1, 1, none⟩) (show w.heap.size + 1 < w1.heap.size by omega)).trans (((bcell hbel).2 (w.heap.size + 1) 1 (by simp; try omega)).trans (by simp [go_sem])))
  have gc1 : W.cell? ⟨w1.heap.size, 1, none⟩ = some (.string ⟨#[44]⟩) := by
    rw [hW]; exact (cell_alloc_old (by have := hbel2.size; simp at this; omega)).trans ((hbel2.cell (p := ⟨w1.heap.size, 1, none⟩) (by simp)).trans (by simp [go_sem]))
  have gd1 : W.cell? ⟨w2.heap.size, 1, none⟩ = some (.string ⟨#[44]⟩) := by rw [hW]; simp [go_sem]
  have ga2 : W.cell? ⟨w.heap.size, 2, none⟩ = some (.string ⟨#[]⟩) := by
    rw [hW]; exact (cell_alloc_old (by have := hbel2.size; simp at this; omega)).trans ((hB2.cell (p := ⟨w.heap.size, 2, none⟩) (show w.heap.size < w1.heap.size by omega)).trans (((bcell hbel).1 (w.heap.size) 2 (by simp; try omega)).trans (by simp [go_sem])))
  have fga2 : W.frozen? ⟨w.heap.size, 2, none⟩ = false := by
    rw [hW]; exact (frozen_alloc_old (by have := hbel2.size; simp at this; omega)).trans ((hB2.frozen (p := ⟨w.heap.size, 2, none⟩) (show w.heap.size < w1.heap.size by omega)).trans (((bcell hbel).2 (w.heap.size) 2 (by simp; try omega)).trans (by simp [go_sem])))
  have gb2 : W.cell? ⟨w.heap.size + 1, 2, none⟩ = some (.string ⟨#[]⟩) := by
    rw [hW]; exact (cell_alloc_old (by have := hbel2.size; simp at this; omega)).trans ((hB2.cell (p := ⟨w.heap.size + 1, 2, none⟩) (show w.heap.size + 1 < w1.heap.size by omega)).trans (((bcell hbel).1 (w.heap.size + 1) 2 (by simp; try omega)).trans (by simp [go_sem])))
  have fgb2 : W.frozen? ⟨w.heap.size + 1, 2, none⟩ = false := by
    rw [hW]; exact (frozen_alloc_old (by have := hbel2.size; simp at this; omega)).trans ((hB2.frozen (p := ⟨w.heap.size + 1, 2, none⟩) (show w.heap.size + 1 < w1.heap.size by omega)).trans (((bcell hbel).2 (w.heap.size + 1) 2 (by simp; try omega)).trans (by simp [go_sem])))
  have gc2 : W.cell? ⟨w1.heap.size, 2, none⟩ = some (.string ⟨#[46]⟩) := by
    rw [hW]; exact (cell_alloc_old (by have := hbel2.size; simp at this; omega)).trans ((hbel2.cell (p := ⟨w1.heap.size, 2, none⟩) (by simp)).trans (by simp [go_sem]))
  have gd2 : W.cell? ⟨w2.heap.size, 2, none⟩ = some (.string ⟨#[46]⟩) := by rw [hW]; simp [go_sem]
  have ga3 : W.cell? ⟨w.heap.size, 3, none⟩ = some (.string ⟨#[]⟩) := by
    rw [hW]; exact (cell_alloc_old (by have := hbel2.size; simp at this; omega)).trans ((hB2.cell (p := ⟨w.heap.size, 3, none⟩) (show w.heap.size < w1.heap.size by omega)).trans (((bcell hbel).1 (w.heap.size) 3 (by simp; try omega)).trans (by simp [go_sem])))
  have fga3 : W.frozen? ⟨w.heap.size, 3, none⟩ = false := by
    rw [hW]; exact (frozen_alloc_old (by have := hbel2.size; simp at this; omega)).trans ((hB2.frozen (p := ⟨w.heap.size, 3, none⟩) (show w.heap.size < w1.heap.size by omega)).trans (((bcell hbel).2 (w.heap.size) 3 (by simp; try omega)).trans (by simp [go_sem])))
  have gb3 : W.cell? ⟨w.heap.size + 1, 3, none⟩ = some (.string ⟨#[]⟩) := by
    rw [hW]; exact (cell_alloc_old (by have := hbel2.size; simp at this; omega)).trans ((hB2.cell (p := ⟨w.heap.size + 1, 3, none⟩) (show w.heap.size + 1 < w1.heap.size by omega)).trans (((bcell hbel).1 (w.heap.size + 1) 3 (by simp; try omega)).trans (by simp [go_sem])))
  have fgb3 : W.frozen? ⟨w.heap.size + 1, 3, none⟩ = false := by
    rw [hW]; exact (frozen_alloc_old (by have := hbel2.size; simp at this; omega)).trans ((hB2.frozen (p := ⟨w.heap.size + 1, 3, none⟩) (show w.heap.size + 1 < w1.heap.size by omega)).trans (((bcell hbel).2 (w.heap.size + 1) 3 (by simp; try omega)).trans (by simp [go_sem])))
  have gc3 : W.cell? ⟨w1.heap.size, 3, none⟩ = some (.string ⟨#[59]⟩) := by
    rw [hW]; exact (cell_alloc_old (by have := hbel2.size; simp at this; omega)).trans ((hbel2.cell (p := ⟨w1.heap.size, 3, none⟩) (by simp)).trans (by simp [go_sem]))
  have gd3 : W.cell? ⟨w2.heap.size, 3, none⟩ = some (.string ⟨#[59]⟩) := by rw [hW]; simp [go_sem]
  have ga4 : W.cell? ⟨w.heap.size, 4, none⟩ = some (.string ⟨#[]⟩) := by
    rw [hW]; exact (cell_alloc_old (by have := hbel2.size; simp at this; omega)).trans ((hB2.cell (p := ⟨w.heap.size, 4, none⟩) (show w.heap.size < w1.heap.size by omega)).trans (((bcell hbel).1 (w.heap.size) 4 (by simp; try omega)).trans (by simp [go_sem])))
  have fga4 : W.frozen? ⟨w.heap.size, 4, none⟩ = false := by
    rw [hW]; exact (frozen_alloc_old (by have := hbel2.size; simp at this; omega)).trans ((hB2.frozen (p := ⟨w.heap.size, 4, none⟩) (show w.heap.size < w1.heap.size by omega)).trans (((bcell hbel).2 (w.heap.size) 4 (by simp; try omega)).trans (by simp [go_sem])))
  have gb4 : W.cell? ⟨w.heap.size + 1, 4, none⟩ = some (.string ⟨#[]⟩) := by
    rw [hW]; exact (cell_alloc_old (by have := hbel2.size; simp at this; omega)).trans ((hB2.cell (p := ⟨w.heap.size + 1, 4, none⟩) (show w.heap.size + 1 < w1.heap.size by omega)).trans (((bcell hbel).1 (w.heap.size + 1) 4 (by simp; try omega)).trans (by simp [go_sem])))
  have fgb4 : W.frozen? ⟨w.heap.size + 1, 4, none⟩ = false := by
    rw [hW]; exact (frozen_alloc_old (by have := hbel2.size; simp at this; omega)).trans ((hB2.frozen (p := ⟨w.heap.size + 1, 4, none⟩) (show w.heap.size + 1 < w1.heap.size by omega)).trans (((bcell hbel).2 (w.heap.size + 1) 4 (by simp; try omega)).trans (by simp [go_sem])))
  have gc4 : W.cell? ⟨w1.heap.size, 4, none⟩ = some (.string ⟨#[45]⟩) := by
    rw [hW]; exact (cell_alloc_old (by have := hbel2.size; simp at this; omega)).trans ((hbel2.cell (p := ⟨w1.heap.size, 4, none⟩) (by simp)).trans (by simp [go_sem]))
  have gd4 : W.cell? ⟨w2.heap.size, 4, none⟩ = some (.string ⟨#[45]⟩) := by rw [hW]; simp [go_sem]
  have ga5 : W.cell? ⟨w.heap.size, 5, none⟩ = some (.string ⟨#[]⟩) := by
    rw [hW]; exact (cell_alloc_old (by have := hbel2.size; simp at this; omega)).trans ((hB2.cell (p := ⟨w.heap.size, 5, none⟩) (show w.heap.size < w1.heap.size by omega)).trans (((bcell hbel).1 (w.heap.size) 5 (by simp; try omega)).trans (by simp [go_sem])))
  have fga5 : W.frozen? ⟨w.heap.size, 5, none⟩ = false := by
    rw [hW]; exact (frozen_alloc_old (by have := hbel2.size; simp at this; omega)).trans ((hB2.frozen (p := ⟨w.heap.size, 5, none⟩) (show w.heap.size < w1.heap.size by omega)).trans (((bcell hbel).2 (w.heap.size) 5 (by simp; try omega)).trans (by simp [go_sem])))
  have gb5 : W.cell? ⟨w.heap.size + 1, 5, none⟩ = some (.string ⟨#[]⟩) := by
    rw [hW]; exact (cell_alloc_old (by have := hbel2.size; simp at this; omega)).trans ((hB2.cell (p := ⟨w.heap.size + 1, 5, none⟩) (show w.heap.size + 1 < w1.heap.size by omega)).trans (((bcell hbel).1 (w.heap.size + 1) 5 (by simp; try omega)).trans (by simp [go_sem])))
  have fgb5 : W.frozen? ⟨w.heap.size + 1, 5, none⟩ = false := by
    rw [hW]; exact (frozen_alloc_old (by have := hbel2.size; simp at this; omega)).trans ((hB2.frozen (p := ⟨w.heap.size + 1, 5, none⟩) (show w.heap.size + 1 < w1.heap.size by omega)).trans (((bcell hbel).2 (w.heap.size + 1) 5 (by simp; try omega)).trans (by simp [go_sem])))
  have gc5 : W.cell? ⟨w1.heap.size, 5, none⟩ = some (.string ⟨#[37]⟩) := by
    rw [hW]; exact (cell_alloc_old (by have := hbel2.size; simp at this; omega)).trans ((hbel2.cell (p := ⟨w1.heap.size, 5, none⟩) (by simp)).trans (by simp [go_sem]))
  have gd5 : W.cell? ⟨w2.heap.size, 5, none⟩ = some (.string ⟨#[37]⟩) := by rw [hW]; simp [go_sem]
  have ga6 : W.cell? ⟨w.heap.size, 6, none⟩ = some (.string ⟨#[]⟩) := by
    rw [hW]; exact (cell_alloc_old (by have := hbel2.size; simp at this; omega)).trans ((hB2.cell (p := ⟨w.heap.size, 6, none⟩) (show w.heap.size < w1.heap.size by omega)).trans (((bcell hbel).1 (w.heap.size) 6 (by simp; try omega)).trans (by simp [go_sem])))
  have fga6 : W.frozen? ⟨w.heap.size, 6, none⟩ = false := by
    rw [hW]; exact (frozen_alloc_old (by have := hbel2.size; simp at this; omega)).trans ((hB2.frozen (p := ⟨w.heap.size, 6, none⟩) (show w.heap.size < w1.heap.size by omega)).trans (((bcell hbel).2 (w.heap.size) 6 (by simp; try omega)).trans (by simp [go_sem])))
  have gb6 : W.cell? ⟨w.heap.size + 1, 6, none⟩ = some (.string ⟨#[]⟩) := by
    rw [hW]; exact (cell_alloc_old (by have := hbel2.size; simp at this; omega)).trans ((hB2.cell (p := ⟨w.heap.size + 1, 6, none⟩) (show w.heap.size + 1 < w1.heap.size by omega)).trans (((bcell hbel).1 (w.heap.size + 1) 6 (by simp; try omega)).trans (by simp [go_sem])))
  have fgb6 : W.frozen? ⟨w.heap.size + 1, 6, none⟩ = false := by
    rw [hW]; exact (frozen_alloc_old (by have := hbel2.size; simp at this; omega)).trans ((hB2.frozen (p := ⟨w.heap.size + 1, 6, none⟩) (show w.heap.size + 1 < w1.heap.size by omega)).trans (((bcell hbel).2 (w.heap.size + 1) 6 (by simp; try omega)).trans (by simp [go_sem])))
  have gc6 : W.cell? ⟨w1.heap.size, 6, none⟩ = some (.string ⟨#[226, 130, 172]⟩) := by
    rw [hW]; exact (cell_alloc_old (by have := hbel2.size; simp at this; omega)).trans ((hbel2.cell (p := ⟨w1.heap.size, 6, none⟩) (by simp)).trans (by simp [go_sem]))
  have gd6 : W.cell? ⟨w2.heap.size, 6, none⟩ = some (.string ⟨#[226, 130, 172]⟩) := by rw [hW]; simp [go_sem]
  have ga7 : W.cell? ⟨w.heap.size, 7, none⟩ = some (.bool false) := by
    rw [hW]; exact (cell_alloc_old (by have := hbel2.size; simp at this; omega)).trans ((hB2.cell (p := ⟨w.heap.size, 7, none⟩) (show w.heap.size < w1.heap.size by omega)).trans (((bcell hbel).1 (w.heap.size) 7 (by simp; try omega)).trans (by simp [go_sem])))
  have fga7 : W.frozen? ⟨w.heap.size, 7, none⟩ = false := by
    rw [hW]; exact (frozen_alloc_old (by have := hbel2.size; simp at this; omega)).trans ((hB2.frozen (p := ⟨w.heap.size, 7, none⟩) (show w.heap.size < w1.heap.size by omega)).trans (((bcell hbel).2 (w.heap.size) 7 (by simp; try omega)).trans (by simp [go_sem])))
  have gb7 : W.cell? ⟨w.heap.size + 1, 7, none⟩ = some (.bool false) := by
    rw [hW]; exact (cell_alloc_old (by have := hbel2.size; simp at this; omega)).trans ((hB2.cell (p := ⟨w.heap.size + 1, 7, none⟩) (show w.heap.size + 1 < w1.heap.size by omega)).trans (((bcell hbel).1 (w.heap.size + 1) 7 (by simp; try omega)).trans (by simp [go_sem])))
  have fgb7 : W.frozen? ⟨w.heap.size + 1, 7, none⟩ = false := by
    rw [hW]; exact (frozen_alloc_old (by have := hbel2.size; simp at this; omega)).trans ((hB2.frozen (p := ⟨w.heap.size + 1, 7, none⟩) (show w.heap.size + 1 < w1.heap.size by omega)).trans (((bcell hbel).2 (w.heap.size + 1) 7 (by simp; try omega)).trans (by simp [go_sem])))
  have gc7 : W.cell? ⟨w1.heap.size, 7, none⟩ = some (.bool false) := by
    rw [hW]; exact (cell_alloc_old (by have := hbel2.size; simp at this; omega)).trans ((hbel2.cell (p := ⟨w1.heap.size, 7, none⟩) (by simp)).trans (by simp [go_sem]))
  have gd7 : W.cell? ⟨w2.heap.size, 7, none⟩ = some (.bool false) := by rw [hW]; simp [go_sem]
  have ga8 : W.cell? ⟨w.heap.size, 8, none⟩ = some (.bool false) := by
    rw [hW]; exact (cell_alloc_old (by have := hbel2.size; simp at this; omega)).trans ((hB2.cell (p := ⟨w.heap.size, 8, none⟩) (show w.heap.size < w1.heap.size by omega)).trans (((bcell hbel).1 (w.heap.size) 8 (by simp; try omega)).trans (by simp [go_sem])))
  have fga8 : W.frozen? ⟨w.heap.size, 8, none⟩ = false := by
    rw [hW]; exact (frozen_alloc_old (by have := hbel2.size; simp at this; omega)).trans ((hB2.frozen (p := ⟨w.heap.size, 8, none⟩) (show w.heap.size < w1.heap.size by omega)).trans (((bcell hbel).2 (w.heap.size) 8 (by simp; try omega)).trans (by simp [go_sem])))
  have gb8 : W.cell? ⟨w.heap.size + 1, 8, none⟩ = some (.bool false) := by
    rw [hW]; exact (cell_alloc_old (by have := hbel2.size; simp at this; omega)).trans ((hB2.cell (p := ⟨w.heap.size + 1, 8, none⟩) (show w.heap.size + 1 < w1.heap.size by omega)).trans (((bcell hbel).1 (w.heap.size + 1) 8 (by simp; try omega)).trans (by simp [go_sem])))
  have fgb8 : W.frozen? ⟨w.heap.size + 1, 8, none⟩ = false := by
    rw [hW]; exact (frozen_alloc_old (by have := hbel2.size; simp at this; omega)).trans ((hB2.frozen (p := ⟨w.heap.size + 1, 8, none⟩) (show w.heap.size + 1 < w1.heap.size by omega)).trans (((bcell hbel).2 (w.heap.size + 1) 8 (by simp; try omega)).trans (by simp [go_sem])))
  have gc8 : W.cell? ⟨w1.heap.size, 8, none⟩ = some (.bool true) := by
    rw [hW]; exact (cell_alloc_old (by have := hbel2.size; simp at this; omega)).trans ((hbel2.cell (p := ⟨w1.heap.size, 8, none⟩) (by simp)).trans (by simp [go_sem]))
  have gd8 : W.cell? ⟨w2.heap.size, 8, none⟩ = some (.bool true) := by rw [hW]; simp [go_sem]
  have ga9 : W.cell? ⟨w.heap.size, 9, none⟩ = some (.slice none 0 0) := by
    rw [hW]; exact (cell_alloc_old (by have := hbel2.size; simp at this; omega)).trans ((hB2.cell (p := ⟨w.heap.size, 9, none⟩) (show w.heap.size < w1.heap.size by omega)).trans (((bcell hbel).1 (w.heap.size) 9 (by simp; try omega)).trans (by simp [go_sem])))
  have fga9 : W.frozen? ⟨w.heap.size, 9, none⟩ = false := by
    rw [hW]; exact (frozen_alloc_old (by have := hbel2.size; simp at this; omega)).trans ((hB2.frozen (p := ⟨w.heap.size, 9, none⟩) (show w.heap.size < w1.heap.size by omega)).trans (((bcell hbel).2 (w.heap.size) 9 (by simp; try omega)).trans (by simp [go_sem])))
  have gb9 : W.cell? ⟨w.heap.size + 1, 9, none⟩ = some (.int .i64 0) := by
    rw [hW]; exact (cell_alloc_old (by have := hbel2.size; simp at this; omega)).trans ((hB2.cell (p := ⟨w.heap.size + 1, 9, none⟩) (show w.heap.size + 1 < w1.heap.size by omega)).trans (((bcell hbel).1 (w.heap.size + 1) 9 (by simp; try omega)).trans (by simp [go_sem])))
  have fgb9 : W.frozen? ⟨w.heap.size + 1, 9, none⟩ = false := by
    rw [hW]; exact (frozen_alloc_old (by have := hbel2.size; simp at this; omega)).trans ((hB2.frozen (p := ⟨w.heap.size + 1, 9, none⟩) (show w.heap.size + 1 < w1.heap.size by omega)).trans (((bcell hbel).2 (w.heap.size + 1) 9 (by simp; try omega)).trans (by simp [go_sem])))
  have gc9 : W.cell? ⟨w1.heap.size, 9, none⟩ = some (.int .i64 3) := by
    rw [hW]; exact (cell_alloc_old (by have := hbel2.size; simp at this; omega)).trans ((hbel2.cell (p := ⟨w1.heap.size, 9, none⟩) (by simp)).trans (by simp [go_sem]))
  have gd9 : W.cell? ⟨w2.heap.size, 9, none⟩ = some (.slice (some ⟨b2, 0, none⟩) 1 1) := by rw [hW]; simp [go_sem]
  rw [← hW]
  have hsz := hbel2.size
  simp only [World.size_alloc] at hsz
  have hWc : ∀ k, W.cell? ⟨b2, k, none⟩ = w2.cell? ⟨b2, k, none⟩ := fun k => by rw [hW]; exact cell_alloc_old hs2.1
  have HWC := Lib.hid hWc
  have hb2 : b2 < w2.heap.size := hs2.1
  have HS2 := Lib.hid hs2; have HBW := Lib.hid hBW
  simp only [World.size_alloc] at hlow2
  clear hWc hW hs2 hBW hB2 hbel2 hbel hB_w1
  go_region
  go_wp2
  obtain ⟨X, hX⟩ : ∃ X, X = ((W.setCells w.heap.size 0 [.string ⟨#[100, 101]⟩, .string ⟨#[44]⟩, .string ⟨#[46]⟩, .string ⟨#[59]⟩, .string ⟨#[45]⟩, .string ⟨#[37]⟩, .string ⟨#[226, 130, 172]⟩, .bool false, .bool true, .slice (some ⟨b2, 0, none⟩) 1 1]).setCells (w.heap.size + 1) 0 [.string ⟨#[100, 101]⟩, .string ⟨#[44]⟩, .string ⟨#[46]⟩, .string ⟨#[59]⟩, .string ⟨#[45]⟩, .string ⟨#[37]⟩, .string ⟨#[226, 130, 172]⟩, .bool false, .bool true, .int .i64 3]).drew := ⟨_, rfl⟩
  have hcP := World.cell?_setCells_in w.heap.size [.string ⟨#[100, 101]⟩, .string ⟨#[44]⟩, .string ⟨#[46]⟩, .string ⟨#[59]⟩, .string ⟨#[45]⟩, .string ⟨#[37]⟩, .string ⟨#[226, 130, 172]⟩, .bool false, .bool true, .slice (some ⟨b2, 0, none⟩) 1 1] 0 W (by intro i hi; match i, hi with | 0, _ => exact Option.isSome_of_eq_some ga0 | 1, _ => exact Option.isSome_of_eq_some ga1 | 2, _ => exact Option.isSome_of_eq_some ga2 | 3, _ => exact Option.isSome_of_eq_some ga3 | 4, _ => exact Option.isSome_of_eq_some ga4 | 5, _ => exact Option.isSome_of_eq_some ga5 | 6, _ => exact Option.isSome_of_eq_some ga6 | 7, _ => exact Option.isSome_of_eq_some ga7 | 8, _ => exact Option.isSome_of_eq_some ga8 | 9, _ => exact Option.isSome_of_eq_some ga9 | n + 10, h => exact absurd h (by simp))
  have hcR := World.cell?_setCells_in (w.heap.size + 1) [.string ⟨#[100, 101]⟩, .string ⟨#[44]⟩, .string ⟨#[46]⟩, .string ⟨#[59]⟩, .string ⟨#[45]⟩, .string ⟨#[37]⟩, .string ⟨#[226, 130, 172]⟩, .bool false, .bool true, .int .i64 3] 0 (W.setCells w.heap.size 0 [.string ⟨#[100, 101]⟩, .string ⟨#[44]⟩, .string ⟨#[46]⟩, .string ⟨#[59]⟩, .string ⟨#[45]⟩, .string ⟨#[37]⟩, .string ⟨#[226, 130, 172]⟩, .bool false, .bool true, .slice (some ⟨b2, 0, none⟩) 1 1]) (by
    intro i hi
    rw [World.cell?_setCells_out _ _ _ _ _ (fun e => absurd e (by simp))]
    match i, hi with | 0, _ => exact Option.isSome_of_eq_some gb0 | 1, _ => exact Option.isSome_of_eq_some gb1 | 2, _ => exact Option.isSome_of_eq_some gb2 | 3, _ => exact Option.isSome_of_eq_some gb3 | 4, _ => exact Option.isSome_of_eq_some gb4 | 5, _ => exact Option.isSome_of_eq_some gb5 | 6, _ => exact Option.isSome_of_eq_some gb6 | 7, _ => exact Option.isSome_of_eq_some gb7 | 8, _ => exact Option.isSome_of_eq_some gb8 | 9, _ => exact Option.isSome_of_eq_some gb9 | n + 10, h => exact absurd h (by simp))
  have hother : ∀ k, X.cell? ⟨b2, k, none⟩ = W.cell? ⟨b2, k, none⟩ := fun k => by
    rw [hX, cell_drew1, World.cell?_setCells_out _ _ _ _ _ (fun e => absurd e (by simp; omega)), World.cell?_setCells_out _ _ _ _ _ (fun e => absurd e (by simp; omega))]
  have hXs : X.heap.size = W.heap.size := by rw [hX, size_drew', size_setCells, size_setCells]
  have hXB : Below w.heap.size w X := by rw [hX]; exact (below_setCells (Nat.le_succ _) _ _ (below_setCells (Nat.le_refl _) _ _ HBW.out)).drew
  have ea0 : X.cell? ⟨w.heap.size, 0, none⟩ = some (.string ⟨#[100, 101]⟩) := by
    rw [hX, cell_drew1, World.cell?_setCells_out _ _ _ _ _ (fun e => absurd e (by simp))]; exact hcP 0 (by simp)
  have eb0 : X.cell? ⟨w.heap.size + 1, 0, none⟩ = some (.string ⟨#[100, 101]⟩) := by
    rw [hX, cell_drew1]; exact hcR 0 (by simp)
  have ea1 : X.cell? ⟨w.heap.size, 1, none⟩ = some (.string ⟨#[44]⟩) := by
    rw [hX, cell_drew1, World.cell?_setCells_out _ _ _ _ _ (fun e => absurd e (by simp))]; exact hcP 1 (by simp)
  have eb1 : X.cell? ⟨w.heap.size + 1, 1, none⟩ = some (.string ⟨#[44]⟩) := by
    rw [hX, cell_drew1]; exact hcR 1 (by simp)
  have ea2 : X.cell? ⟨w.heap.size, 2, none⟩ = some (.string ⟨#[46]⟩) := by
    rw [hX, cell_drew1, World.cell?_setCells_out _ _ _ _ _ (fun e => absurd e (by simp))]; exact hcP 2 (by simp)
  have eb2 : X.cell? ⟨w.heap.size + 1, 2, none⟩ = some (.string ⟨#[46]⟩) := by
    rw [hX, cell_drew1]; exact hcR 2 (by simp)
  have ea3 : X.cell? ⟨w.heap.size, 3, none⟩ = some (.string ⟨#[59]⟩) := by
    rw [hX, cell_drew1, World.cell?_setCells_out _ _ _ _ _ (fun e => absurd e (by simp))]; exact hcP 3 (by simp)
  have eb3 : X.cell? ⟨w.heap.size + 1, 3, none⟩ = some (.string ⟨#[59]⟩) := by
    rw [hX, cell_drew1]; exact hcR 3 (by simp)
  have ea4 : X.cell? ⟨w.heap.size, 4, none⟩ = some (.string ⟨#[45]⟩) := by
    rw [hX, cell_drew1, World.cell?_setCells_out _ _ _ _ _ (fun e => absurd e (by simp))]; exact hcP 4 (by simp)
  have eb4 : X.cell? ⟨w.heap.size + 1, 4, none⟩ = some (.string ⟨#[45]⟩) := by
    rw [hX, cell_drew1]; exact hcR 4 (by simp)
  have ea5 : X.cell? ⟨w.heap.size, 5, none⟩ = some (.string ⟨#[37]⟩) := by
    rw [hX, cell_drew1, World.cell?_setCells_out _ _ _ _ _ (fun e => absurd e (by simp))]; exact hcP 5 (by simp)
  have eb5 : X.cell? ⟨w.heap.size + 1, 5, none⟩ = some (.string ⟨#[37]⟩) := by
    rw [hX, cell_drew1]; exact hcR 5 (by simp)
  have ea6 : X.cell? ⟨w.heap.size, 6, none⟩ = some (.string ⟨#[226, 130, 172]⟩) := by
    rw [hX, cell_drew1, World.cell?_setCells_out _ _ _ _ _ (fun e => absurd e (by simp))]; exact hcP 6 (by simp)
  have eb6 : X.cell? ⟨w.heap.size + 1, 6, none⟩ = some (.string ⟨#[226, 130, 172]⟩) := by
    rw [hX, cell_drew1]; exact hcR 6 (by simp)
  have ea7 : X.cell? ⟨w.heap.size, 7, none⟩ = some (.bool false) := by
    rw [hX, cell_drew1, World.cell?_setCells_out _ _ _ _ _ (fun e => absurd e (by simp))]; exact hcP 7 (by simp)
  have eb7 : X.cell? ⟨w.heap.size + 1, 7, none⟩ = some (.bool false) := by
    rw [hX, cell_drew1]; exact hcR 7 (by simp)
  have ea8 : X.cell? ⟨w.heap.size, 8, none⟩ = some (.bool true) := by
    rw [hX, cell_drew1, World.cell?_setCells_out _ _ _ _ _ (fun e => absurd e (by simp))]; exact hcP 8 (by simp)
  have eb8 : X.cell? ⟨w.heap.size + 1, 8, none⟩ = some (.bool true) := by
    rw [hX, cell_drew1]; exact hcR 8 (by simp)
  have ea9 : X.cell? ⟨w.heap.size, 9, none⟩ = some (.slice (some ⟨b2, 0, none⟩) 1 1) := by
    rw [hX, cell_drew1, World.cell?_setCells_out _ _ _ _ _ (fun e => absurd e (by simp))]; exact hcP 9 (by simp)
  have eb9 : X.cell? ⟨w.heap.size + 1, 9, none⟩ = some (.int .i64 3) := by
    rw [hX, cell_drew1]; exact hcR 9 (by simp)
  change bodyPost _ _ _ _ _ ((W.setCells w.heap.size 0 [.string ⟨#[100, 101]⟩, .string ⟨#[44]⟩, .string ⟨#[46]⟩, .string ⟨#[59]⟩, .string ⟨#[45]⟩, .string ⟨#[37]⟩, .string ⟨#[226, 130, 172]⟩, .bool false, .bool true, .slice (some ⟨b2, 0, none⟩) 1 1]).setCells (w.heap.size + 1) 0 [.string ⟨#[100, 101]⟩, .string ⟨#[44]⟩, .string ⟨#[46]⟩, .string ⟨#[59]⟩, .string ⟨#[45]⟩, .string ⟨#[37]⟩, .string ⟨#[226, 130, 172]⟩, .bool false, .bool true, .int .i64 3]).drew
  rw [← hX]
  have hszs : Szs X b2 Lc.de := by
    obtain ⟨h1, h2, h3⟩ := HS2.out
    have hk : ∀ k, X.cell? ⟨b2, k, none⟩ = w2.cell? ⟨b2, k, none⟩ := fun k => (hother k).trans (HWC.out k)
    exact ⟨by omega, (hk 0).trans h2, fun e => (hk 1).trans (h3 e)⟩
  clear hX hcP hcR hother ga0 ga1 ga2 ga3 ga4 ga5 ga6 ga7 ga8 ga9 gb0 gb1 gb2 gb3 gb4 gb5 gb6 gb7 gb8 gb9 gc0 gc1 gc2 gc3 gc4 gc5 gc6 gc7 gc8 gc9 gd0 gd1 gd2 gd3 gd4 gd5 gd6 gd7 gd8 gd9 fga0 fga1 fga2 fga3 fga4 fga5 fga6 fga7 fga8 fga9 fgb0 fgb1 fgb2 fgb3 fgb4 fgb5 fgb6 fgb7 fgb8 fgb9
  (refine bodyPost_ret (v := .tuple #[LV b2 Lc.de, RV Lc.de]) (by simp [results, Tryd.results13, go_sem, RV, LV, tx, Lc.de, Lc.Loc.second, ea0, eb0, ea1, eb1, ea2, eb2, ea3, eb3, ea4, eb4, ea5, eb5, ea6, eb6, ea7, eb7, ea8, eb8, ea9, eb9]; done) rfl ⟨b2, rfl, by omega, hszs, hXB⟩)

set_option maxRecDepth 100000 in
set_option maxHeartbeats 4000000 in
theorem l11_find_en (c : Int) (w : World) (hv : Vars w) (hc : -9223372036854775808 ≤ c ∧ c ≤ 9223372036854775807) (hp : pickC c = 2) : Calls Tryd.prog 13 #[.int .i64 c] w (Find2 Lc.en w) := by
  have hpk := fun w => l11_pick_any c w hc
  rw [hp] at hpk
  have HPK := Lib.hid hpk; have HV := Lib.hid hv
  clear hpk hv hp hc
  go_enter Tryd.func13, Tryd.ntmps13
  go_wp2_with (first
    | (go_at_call 41; (with_reducible refine (HPK.out _).mono ?_); rintro e w' ⟨rfl, rfl⟩)
    | (go_at_call 27; (with_reducible refine (r11_all_any _).mono ?_); rintro e w1 ⟨b, rfl, hlow, ⟨hb1, ⟨c0_0, c0_1, c0_2, c0_3, c0_4, c0_5, c0_6, c0_7, c0_8, c0_9⟩, ⟨c1_0, c1_1, c1_2, c1_3, c1_4, c1_5, c1_6, c1_7, c1_8, c1_9⟩, ⟨c2_0, c2_1, c2_2, c2_3, c2_4, c2_5, c2_6, c2_7, c2_8, c2_9⟩, ⟨c3_0, c3_1, c3_2, c3_3, c3_4, c3_5, c3_6, c3_7, c3_8, c3_9⟩, ⟨c4_0, c4_1, c4_2, c4_3, c4_4, c4_5, c4_6, c4_7, c4_8, c4_9⟩, ⟨c5_0, c5_1, c5_2, c5_3, c5_4, c5_5, c5_6, c5_7, c5_8, c5_9⟩⟩, hbel⟩; clear c0_0 c0_1 c0_2 c0_3 c0_4 c0_5 c0_6 c0_7 c0_8 c0_9 c1_0 c1_1 c1_2 c1_3 c1_4 c1_5 c1_6 c1_7 c1_8 c1_9 c3_0 c3_1 c3_2 c3_3 c3_4 c3_5 c3_6 c3_7 c3_8 c3_9 c4_0 c4_1 c4_2 c4_3 c4_4 c4_5 c4_6 c4_7 c4_8 c4_9 c5_0 c5_1 c5_2 c5_3 c5_4 c5_5 c5_6 c5_7 c5_8 c5_9; have hB_w1 : Below w.heap.size w w1 := Below.trans (by (repeat (first | exact Below.refl _ _ | assumption | refine Below.setCell ?_ (by first | omega | (simp <;> omega)) _ | refine Below.alloc ?_ (by first | omega | (simp <;> omega)) _ | refine Below.drew ?_ | refine below_drewN' ?_ _))) (hbel.mono (by simp; omega)); have hcz := hbel.size; simp only [World.size_alloc] at hcz hlow)
    | (go_at_call 28; (with_reducible refine (lo_find_en _ (HV.out.on (by (repeat (first | exact Below.refl _ _ | assumption | refine Below.setCell ?_ (by first | omega | (simp <;> omega)) _ | refine Below.alloc ?_ (by first | omega | (simp <;> omega)) _ | refine Below.drew ?_ | refine below_drewN' ?_ _))))).mono ?_); rintro e w2 ⟨b2, rfl, hlow2, hs2, hbel2⟩; simp only [LV, tx, Lc.en, if_true, if_false, Bool.false_eq_true]))
  obtain ⟨W, hW⟩ : ∃ W, W = w2.alloc (.cells #[.string ⟨#[101, 110]⟩, .string ⟨#[46]⟩, .string ⟨#[44]⟩, .string ⟨#[44]⟩, .string ⟨#[45]⟩, .string ⟨#[37]⟩, .string ⟨#[36]⟩, .bool true, .bool false, .slice (some ⟨b2, 0, none⟩) 1 1] 25) := ⟨_, rfl⟩
  have hWs : W.heap.size = w2.heap.size + 1 := by rw [hW]; simp
  have hBW : Below w.heap.size w W := by rw [hW]; exact ((hB_w1.alloc hB_w1.size _).trans (hbel2.mono (by simp; omega))).alloc (by have := hbel2.size; simp at this; omega) _
  have hB2 : Below w1.heap.size w1 w2 := Below.trans ((Below.refl _ _).alloc (Nat.le_refl _) _) (hbel2.mono (by simp))
  have ga0 : W.cell? ⟨w.heap.size, 0, none⟩ = some (.string ⟨#[]⟩) := by
    rw [hW]; exact (cell_alloc_old (by have := hbel2.size; simp at this; omega)).trans ((hB2.cell (p := ⟨w.heap.size, 0, none⟩) (show w.heap.size < w1.heap.size by omega)).trans (((bcell hbel).1 (w.heap.size) 0 (by simp; try omega)).trans (by simp [go_sem])))
  have fga0 : W.frozen? ⟨w.heap.size, 0, none⟩ = false := by
    rw [hW]; exact (frozen_alloc_old (by have := hbel2.size; simp at this; omega)).trans ((hB2.frozen (p := ⟨w.heap.size, 0, none⟩) (show w.heap.size < w1.heap.size by omega)).trans (((bcell hbel).2 (w.heap.size) 0 (by simp; try omega)).trans (by simp [go_sem])))
  have gb0 : W.cell? ⟨w.heap.size + 1, 0, none⟩ = some (.string ⟨#[]⟩) := by
    rw [hW]; exact (cell_alloc_old (by have := hbel2.size; simp at this; omega)).trans ((hB2.cell (p := ⟨w.heap.size + 1, 0, none⟩) (show w.heap.size + 1 < w1.heap.size by omega)).trans (((bcell hbel).1 (w.heap.size + 1) 0 (by simp; try omega)).trans (by simp [go_sem])))
  have fgb0 : W.frozen? ⟨w.heap.size + 1, 0, none⟩ = false := by
    rw [hW]; exact (frozen_alloc_old (by have := hbel2.size; simp at this; omega)).trans ((hB2.frozen (p := ⟨w.heap.size + 1, 0, none⟩) (show w.heap.size + 1 < w1.heap.size by omega)).trans (((bcell hbel).2 (w.heap.size + 1) 0 (by simp; try omega)).trans (by simp [go_sem])))
  have gc0 : W.cell? ⟨w1.heap.size, 0, none⟩ = some (.string ⟨#[101, 110]⟩) := by
    rw [hW]; exact (cell_alloc_old (by have := hbel2.size; simp at this; omega)).trans ((hbel2.cell (p := ⟨w1.heap.size, 0, none⟩) (by simp)).trans (by simp [go_sem]))
  have gd0 : W.cell? ⟨w2.heap.size, 0, none⟩ = some (.string ⟨#[101, 110]⟩) := by rw [hW]; simp [go_sem]
  have ga1 : W.cell? ⟨w.heap.size, 1, none⟩ = some (.string ⟨#[]⟩) := by
    rw [hW]; exact (cell_alloc_old (by have := hbel2.size; simp at this; omega)).trans ((hB2.cell (p := ⟨w.heap.size, 1, none⟩) (show w.heap.size < w1.heap.size by omega)).trans (((bcell hbel).1 (w.heap.size) 1 (by simp; try omega)).trans (by simp [go_sem])))
  have fga1 : W.frozen? ⟨w.heap.size, 1, none⟩ = false := by
    rw [hW]; exact (frozen_alloc_old (by have := hbel2.size; simp at this; omega)).trans ((hB2.frozen (p := ⟨w.heap.size, 1, none⟩) (show w.heap.size < w1.heap.size by omega)).trans (((bcell hbel).2 (w.heap.size) 1 (by simp; try omega)).trans (by simp [go_sem])))
  have gb1 : W.cell? ⟨w.heap.size + 1, 1, none⟩ = some (.string ⟨#[]⟩) := by
    rw [hW]; exact (cell_alloc_old (by have := hbel2.size; simp at this; omega)).trans ((hB2.cell (p := ⟨w.heap.size + 1, 1, none⟩) (show w.heap.size + 1 < w1.heap.size by omega)).trans (((bcell hbel).1 (w.heap.size + 1) 1 (by simp; try omega)).trans (by simp [go_sem])))
  have fgb1 : W.frozen? ⟨w.heap.size + 1, 1, none⟩ = false := by
    rw [hW]; exact (frozen_alloc_old (by have := hbel2.size; simp at this; omega)).trans ((hB2.frozen (p := ⟨w.heap.size + 1, 1, none⟩) (show w.heap.size + 1 < w1.heap.size by omega)).trans (((bcell hbel).2 (w.heap.size + 1) 1 (by simp; try omega)).trans (by simp [go_sem])))
  have gc1 : W.cell? ⟨w1.heap.size, 1, none⟩ = some (.string ⟨#[46]⟩) := by
    rw [hW]; exact (cell_alloc_old (by have := hbel2.size; simp at this; omega)).trans ((hbel2.cell (p := ⟨w1.heap.size, 1, none⟩) (by simp)).trans (by simp [go_sem]))
  have gd1 : W.cell? ⟨w2.heap.size, 1, none⟩ = some (.string ⟨#[46]⟩) := by rw [hW]; simp [go_sem]
  have ga2 : W.cell? ⟨w.heap.size, 2, none⟩ = some (.string ⟨#[]⟩) := by
    rw [hW]; exact (cell_alloc_old (by have := hbel2.size; simp at this; omega)).trans ((hB2.cell (p := ⟨w.heap.size, 2, none⟩) (show w.heap.size < w1.heap.size by omega)).trans (((bcell hbel).1 (w.heap.size) 2 (by simp; try omega)).trans (by simp [go_sem])))
  have fga2 : W.frozen? ⟨w.heap.size, 2, none⟩ = false := by
    rw [hW]; exact (frozen_alloc_old (by have := hbel2.size; simp at this; omega)).trans ((hB2.frozen (p := ⟨w.heap.size, 2, none⟩) (show w.heap.size < w1.heap.size by omega)).trans (((bcell hbel).2 (w.heap.size) 2 (by simp; try omega)).trans (by simp [go_sem])))
  have gb2 : W.cell? ⟨w.heap.size + 1, 2, none⟩ = some (.string ⟨#[]⟩) := by
    rw [hW]; exact (cell_alloc_old (by have := hbel2.size; simp at this; omega)).trans ((hB2.cell (p := ⟨w.heap.size + 1, 2, none⟩) (show w.heap.size + 1 < w1.heap.size by omega)).trans (((bcell hbel).1 (w.heap.size + 1) 2 (by simp; try omega)).trans (by simp [go_sem])))
  have fgb2 : W.frozen? ⟨w.heap.size + 1, 2, none⟩ = false := by
    rw [hW]; exact (frozen_alloc_old (by have := hbel2.size; simp at this; omega)).trans ((hB2.frozen (p := ⟨w.heap.size + 1, 2, none⟩) (show w.heap.size + 1 < w1.heap.size by omega)).trans (((bcell hbel).2 (w.heap.size + 1) 2 (by simp; try omega)).trans (by simp [go_sem])))
  have gc2 : W.cell? ⟨w1.heap.size, 2, none⟩ = some (.string ⟨#[44]⟩) := by
    rw [hW]; exact (cell_alloc_old (by have := hbel2.size; simp at this; omega)).trans ((hbel2.cell (p := ⟨w1.heap.size, 2, none⟩) (by simp)).trans (by simp [go_sem]))
  have gd2 : W.cell? ⟨w2.heap.size, 2, none⟩ = some (.string ⟨#[44]⟩) := by rw [hW]; simp [go_sem]
  have ga3 : W.cell? ⟨w.heap.size, 3, none⟩ = some (.string ⟨#[]⟩) := by
    rw [hW]; exact (cell_alloc_old (by have := hbel2.size; simp at this; omega)).trans ((hB2.cell (p := ⟨w.heap.size, 3, none⟩) (show w.heap.size < w1.heap.size by omega)).trans (((bcell hbel).1 (w.heap.size) 3 (by simp; try omega)).trans (by simp [go_sem])))
  have fga3 : W.frozen? ⟨w.heap.size, 3, none⟩ = false := by
    rw [hW]; exact (frozen_alloc_old (by have := hbel2.size; simp at this; omega)).trans ((hB2.frozen (p := ⟨w.heap.size, 3, none⟩) (show w.heap.size < w1.heap.size by omega)).trans (((bcell hbel).2 (w.heap.size) 3 (by simp; try omega)).trans (by simp [go_sem])))
  have gb3 : W.cell? ⟨w.heap.size + 1, 3, none⟩ = some (.string ⟨#[]⟩) := by
    rw [hW]; exact (cell_alloc_old (by have := hbel2.size; simp at this; omega)).trans ((hB2.cell (p := ⟨w.heap.size + 1, 3, none⟩) (show w.heap.size + 1 < w1.heap.size by omega)).trans (((bcell hbel).1 (w.heap.size + 1) 3 (by simp; try omega)).trans (by simp [go_sem])))
  have fgb3 : W.frozen? ⟨w.heap.size + 1, 3, none⟩ = false := by
    rw [hW]; exact (frozen_alloc_old (by have := hbel2.size; simp at this; omega)).trans ((hB2.frozen (p := ⟨w.heap.size + 1, 3, none⟩) (show w.heap.size + 1 < w1.heap.size by omega)).trans (((bcell hbel).2 (w.heap.size + 1) 3 (by simp; try omega)).trans (by simp [go_sem])))
  have gc3 : W.cell? ⟨w1.heap.size, 3, none⟩ = some (.string ⟨#[44]⟩) := by
    rw [hW]; exact (cell_alloc_old (by have := hbel2.size; simp at this; omega)).trans ((hbel2.cell (p := ⟨w1.heap.size, 3, none⟩) (by simp)).trans (by simp [go_sem]))
  have gd3 : W.cell? ⟨w2.heap.size, 3, none⟩ = some (.string ⟨#[44]⟩) := by rw [hW]; simp [go_sem]
  have ga4 : W.cell? ⟨w.heap.size, 4, none⟩ = some (.string ⟨#[]⟩) := by
    rw [hW]; exact (cell_alloc_old (by have := hbel2.size; simp at this; omega)).trans ((hB2.cell (p := ⟨w.heap.size, 4, none⟩) (show w.heap.size < w1.heap.size by omega)).trans (((bcell hbel).1 (w.heap.size) 4 (by simp; try omega)).trans (by simp [go_sem])))
  have fga4 : W.frozen? ⟨w.heap.size, 4, none⟩ = false := by
    rw [hW]; exact (frozen_alloc_old (by have := hbel2.size; simp at this; omega)).trans ((hB2.frozen (p := ⟨w.heap.size, 4, none⟩) (show w.heap.size < w1.heap.size by omega)).trans (((bcell hbel).2 (w.heap.size) 4 (by simp; try omega)).trans (by simp [go_sem])))
  have gb4 : W.cell? ⟨w.heap.size + 1, 4, none⟩ = some (.string ⟨#[]⟩) := by
    rw [hW]; exact (cell_alloc_old (by have := hbel2.size; simp at this; omega)).trans ((hB2.cell (p := ⟨w.heap.size + 1, 4, none⟩) (show w.heap.size + 1 < w1.heap.size by omega)).trans (((bcell hbel).1 (w.heap.size + 1) 4 (by simp; try omega)).trans (by simp [go_sem])))
  have fgb4 : W.frozen? ⟨w.heap.size + 1, 4, none⟩ = false := by
    rw [hW]; exact (frozen_alloc_old (by have := hbel2.size; simp at this; omega)).trans ((hB2.frozen (p := ⟨w.heap.size + 1, 4, none⟩) (show w.heap.size + 1 < w1.heap.size by omega)).trans (((bcell hbel).2 (w.heap.size + 1) 4 (by simp; try omega)).trans (by simp [go_sem])))
  have gc4 : W.cell? ⟨w1.heap.size, 4, none⟩ = some (.string ⟨#[45]⟩) := by
    rw [hW]; exact (cell_alloc_old (by have := hbel2.size; simp at this; omega)).trans ((hbel2.cell (p := ⟨w1.heap.size, 4, none⟩) (by simp)).trans (by simp [go_sem]))
  have gd4 : W.cell? ⟨w2.heap.size, 4, none⟩ = some (.string ⟨#[45]⟩) := by rw [hW]; simp [go_sem]
  have ga5 : W.cell? ⟨w.heap.size, 5, none⟩ = some (.string ⟨#[]⟩) := by
    rw [hW]; exact (cell_alloc_old (by have := hbel2.size; simp at this; omega)).trans ((hB2.cell (p := ⟨w.heap.size, 5, none⟩) (show w.heap.size < w1.heap.size by omega)).trans (((bcell hbel).1 (w.heap.size) 5 (by simp; try omega)).trans (by simp [go_sem])))
  have fga5 : W.frozen? ⟨w.heap.size, 5, none⟩ = false := by
    rw [hW]; exact (frozen_alloc_old (by have := hbel2.size; simp at this; omega)).trans ((hB2.frozen (p := ⟨w.heap.size, 5, none⟩) (show w.heap.size < w1.heap.size by omega)).trans (((bcell hbel).2 (w.heap.size) 5 (by simp; try omega)).trans (by simp [go_sem])))
  have gb5 : W.cell? ⟨w.heap.size + 1, 5, none⟩ = some (.string ⟨#[]⟩) := by
    rw [hW]; exact (cell_alloc_old (by have := hbel2.size; simp at this; omega)).trans ((hB2.cell (p := ⟨w.heap.size + 1, 5, none⟩) (show w.heap.size + 1 < w1.heap.size by omega)).trans (((bcell hbel).1 (w.heap.size + 1) 5 (by simp; try omega)).trans (by simp [go_sem])))
  have fgb5 : W.frozen? ⟨w.heap.size + 1, 5, none⟩ = false := by
    rw [hW]; exact (frozen_alloc_old (by have := hbel2.size; simp at this; omega)).trans ((hB2.frozen (p := ⟨w.heap.size + 1, 5, none⟩) (show w.heap.size + 1 < w1.heap.size by omega)).trans (((bcell hbel).2 (w.heap.size + 1) 5 (by simp; try omega)).trans (by simp [go_sem])))
  have gc5 : W.cell? ⟨w1.heap.size, 5, none⟩ = some (.string ⟨#[37]⟩) := by
    rw [hW]; exact (cell_alloc_old (by have := hbel2.size; simp at this; omega)).trans ((hbel2.cell (p := ⟨w1.heap.size, 5, none⟩) (by simp)).trans (by simp [go_sem]))
  have gd5 : W.cell? ⟨w2.heap.size, 5, none⟩ = some (.string ⟨#[37]⟩) := by rw [hW]; simp [go_sem]
  have ga6 : W.cell? ⟨w.heap.size, 6, none⟩ = some (.string ⟨#[]⟩) := by
    rw [hW]; exact (cell_alloc_old (by have := hbel2.size; simp at this; omega)).trans ((hB2.cell (p := ⟨w.heap.size, 6, none⟩) (show w.heap.size < w1.heap.size by omega)).trans (((bcell hbel).1 (w.heap.size) 6 (by simp; try omega)).trans (by simp [go_sem])))
  have fga6 : W.frozen? ⟨w.heap.size, 6, none⟩ = false := by
    rw [hW]; exact (frozen_alloc_old (by have := hbel2.size; simp at this; omega)).trans ((hB2.frozen (p := ⟨w.heap.size, 6, none⟩) (show w.heap.size < w1.heap.size by omega)).trans (((bcell hbel).2 (w.heap.size) 6 (by simp; try omega)).trans (by simp [go_sem])))
  have gb6 : W.cell? ⟨w.heap.size + 1, 6, none⟩ = some (.string ⟨#[]⟩) := by
    rw [hW]; exact (cell_alloc_old (by have := hbel2.size; simp at this; omega)).trans ((hB2.cell (p := ⟨w.heap.size + 1, 6, none⟩) (show w.heap.size + 1 < w1.heap.size by omega)).trans (((bcell hbel).1 (w.heap.size + 1) 6 (by simp; try omega)).trans (by simp [go_sem])))
  have fgb6 : W.frozen? ⟨w.heap.size + 1, 6, none⟩ = false := by
    rw [hW]; exact (frozen_alloc_old (by have := hbel2.size; simp at this; omega)).trans ((hB2.frozen (p := ⟨w.heap.size + 1, 6, none⟩) (show w.heap.size + 1 < w1.heap.size by omega)).trans (((bcell hbel).2 (w.heap.size + 1) 6 (by simp; try omega)).trans (by simp [go_sem])))
  have gc6 : W.cell? ⟨w1.heap.size, 6, none⟩ = some (.string ⟨#[36]⟩) := by
    rw [hW]; exact (cell_alloc_old (by have := hbel2.size; simp at this; omega)).trans ((hbel2.cell (p := ⟨w1.heap.size, 6, none⟩) (by simp)).trans (by simp [go_sem]))
  have gd6 : W.cell? ⟨w2.heap.size, 6, none⟩ = some (.string ⟨#[36]⟩) := by rw [hW]; simp [go_sem]
  have ga7 : W.cell? ⟨w.heap.size, 7, none⟩ = some (.bool false) := by
    rw [hW]; exact (cell_alloc_old (by have := hbel2.size; simp at this; omega)).trans ((hB2.cell (p := ⟨w.heap.size, 7, none⟩) (show w.heap.size < w1.heap.size by omega)).trans (((bcell hbel).1 (w.heap.size) 7 (by simp; try omega)).trans (by simp [go_sem])))
  have fga7 : W.frozen? ⟨w.heap.size, 7, none⟩ = false := by
    rw [hW]; exact (frozen_alloc_old (by have := hbel2.size; simp at this; omega)).trans ((hB2.frozen (p := ⟨w.heap.size, 7, none⟩) (show w.heap.size < w1.heap.size by omega)).trans (((bcell hbel).2 (w.heap.size) 7 (by simp; try omega)).trans (by simp [go_sem])))
  have gb7 : W.cell? ⟨w.heap.size + 1, 7, none⟩ = some (.bool false) := by
    rw [hW]; exact (cell_alloc_old (by have := hbel2.size; simp at this; omega)).trans ((hB2.cell (p := ⟨w.heap.size + 1, 7, none⟩) (show w.heap.size + 1 < w1.heap.size by omega)).trans (((bcell hbel).1 (w.heap.size + 1) 7 (by simp; try omega)).trans (by simp [go_sem])))
  have fgb7 : W.frozen? ⟨w.heap.size + 1, 7, none⟩ = false := by
    rw [hW]; exact (frozen_alloc_old (by have := hbel2.size; simp at this; omega)).trans ((hB2.frozen (p := ⟨w.heap.size + 1, 7, none⟩) (show w.heap.size + 1 < w1.heap.size by omega)).trans (((bcell hbel).2 (w.heap.size + 1) 7 (by simp; try omega)).trans (by simp [go_sem])))
  have gc7 : W.cell? ⟨w1.heap.size, 7, none⟩ = some (.bool true) := by
    rw [hW]; exact (cell_alloc_old (by have := hbel2.size; simp at this; omega)).trans ((hbel2.cell (p := ⟨w1.heap.size, 7, none⟩) (by simp)).trans (by simp [go_sem]))
  have gd7 : W.cell? ⟨w2.heap.size, 7, none⟩ = some (.bool true) := by rw [hW]; simp [go_sem]
  have ga8 : W.cell? ⟨w.heap.size, 8, none⟩ = some (.bool false) := by
    rw [hW]; exact (cell_alloc_old (by have := hbel2.size; simp at this; omega)).trans ((hB2.cell (p := ⟨w.heap.size, 8, none⟩) (show w.heap.size < w1.heap.size by omega)).trans (((bcell hbel).1 (w.heap.size) 8 (by simp; try omega)).trans (by simp [go_sem])))
  have fga8 : W.frozen? ⟨w.heap.size, 8, none⟩ = false := by
    rw [hW]; exact (frozen_alloc_old (by have := hbel2.size; simp at this; omega)).trans ((hB2.frozen (p := ⟨w.heap.size, 8, none⟩) (show w.heap.size < w1.heap.size by omega)).trans (((bcell hbel).2 (w.heap.size) 8 (by simp; try omega)).trans (by simp [go_sem])))
  have gb8 : W.cell? ⟨w.heap.size + 1, 8, none⟩ = some (.bool false) := by
    rw [hW]; exact (cell_alloc_old (by have := hbel2.size; simp at this; omega)).trans ((hB2.cell (p := ⟨w.heap.size + 1, 8, none⟩) (show w.heap.size + 1 < w1.heap.size by omega)).trans (((bcell hbel).1 (w.heap.size + 1) 8 (by simp; try omega)).trans (by simp [go_sem])))
  have fgb8 : W.frozen? ⟨w.heap.size + 1, 8, none⟩ = false := by
    rw [hW]; exact (frozen_alloc_old (by have := hbel2.size; simp at this; omega)).trans ((hB2.frozen (p := ⟨w.heap.size + 1, 8, none⟩) (show w.heap.size + 1 < w1.heap.size by omega)).trans (((bcell hbel).2 (w.heap.size + 1) 8 (by simp; try omega)).trans (by simp [go_sem])))
  have gc8 : W.cell? ⟨w1.heap.size, 8, none⟩ = some (.bool false) := by
    rw [hW]; exact (cell_alloc_old (by have := hbel2.size; simp at this; omega)).trans ((hbel2.cell (p := ⟨w1.heap.size, 8, none⟩) (by simp)).trans (by simp [go_sem]))
  have gd8 : W.cell? ⟨w2.heap.size, 8, none⟩ = some (.bool false) := by rw [hW]; simp [go_sem]
  have ga9 : W.cell? ⟨w.heap.size, 9, none⟩ = some (.slice none 0 0) := by
    rw [hW]; exact (cell_alloc_old (by have := hbel2.size; simp at this; omega)).trans ((hB2.cell (p := ⟨w.heap.size, 9, none⟩) (show w.heap.size < w1.heap.size by omega)).trans (((bcell hbel).1 (w.heap.size) 9 (by simp; try omega)).trans (by simp [go_sem])))
  have fga9 : W.frozen? ⟨w.heap.size, 9, none⟩ = false := by
    rw [hW]; exact (frozen_alloc_old (by have := hbel2.size; simp at this; omega)).trans ((hB2.frozen (p := ⟨w.heap.size, 9, none⟩) (show w.heap.size < w1.heap.size by omega)).trans (((bcell hbel).2 (w.heap.size) 9 (by simp; try omega)).trans (by simp [go_sem])))
  have gb9 : W.cell? ⟨w.heap.size + 1, 9, none⟩ = some (.int .i64 0) := by
    rw [hW]; exact (cell_alloc_old (by have := hbel2.size; simp at this; omega)).trans ((hB2.cell (p := ⟨w.heap.size + 1, 9, none⟩) (show w.heap.size + 1 < w1.heap.size by omega)).trans (((bcell hbel).1 (w.heap.size + 1) 9 (by simp; try omega)).trans (by simp [go_sem])))
  have fgb9 : W.frozen? ⟨w.heap.size + 1, 9, none⟩ = false := by
    rw [hW]; exact (frozen_alloc_old (by have := hbel2.size; simp at this; omega)).trans ((hB2.frozen (p := ⟨w.heap.size + 1, 9, none⟩) (show w.heap.size + 1 < w1.heap.size by omega)).trans (((bcell hbel).2 (w.heap.size + 1) 9 (by simp; try omega)).trans (by simp [go_sem])))
  have gc9 : W.cell? ⟨w1.heap.size, 9, none⟩ = some (.int .i64 3) := by
    rw [hW]; exact (cell_alloc_old (by have := hbel2.size; simp at this; omega)).trans ((hbel2.cell (p := ⟨w1.heap.size, 9, none⟩) (by simp)).trans (by simp [go_sem]))
  have gd9 : W.cell? ⟨w2.heap.size, 9, none⟩ = some (.slice (some ⟨b2, 0, none⟩) 1 1) := by rw [hW]; simp [go_sem]
  rw [← hW]
  have hsz := hbel2.size
  simp only [World.size_alloc] at hsz
  have hWc : ∀ k, W.cell? ⟨b2, k, none⟩ = w2.cell? ⟨b2, k, none⟩ := fun k => by rw [hW]; exact cell_alloc_old hs2.1
  have HWC := Lib.hid hWc
  have hb2 : b2 < w2.heap.size := hs2.1
  have HS2 := Lib.hid hs2; have HBW := Lib.hid hBW
  simp only [World.size_alloc] at hlow2
  clear hWc hW hs2 hBW hB2 hbel2 hbel hB_w1
  go_region
  go_wp2
  obtain ⟨X, hX⟩ : ∃ X, X = ((W.setCells w.heap.size 0 [.string ⟨#[101, 110]⟩, .string ⟨#[46]⟩, .string ⟨#[44]⟩, .string ⟨#[44]⟩, .string ⟨#[45]⟩, .string ⟨#[37]⟩, .string ⟨#[36]⟩, .bool true, .bool false, .slice (some ⟨b2, 0, none⟩) 1 1]).setCells (w.heap.size + 1) 0 [.string ⟨#[101, 110]⟩, .string ⟨#[46]⟩, .string ⟨#[44]⟩, .string ⟨#[44]⟩, .string ⟨#[45]⟩, .string ⟨#[37]⟩, .string ⟨#[36]⟩, .bool true, .bool false, .int .i64 3]).drew := ⟨_, rfl⟩
  have hcP := World.cell?_setCells_in w.heap.size [.string ⟨#[101, 110]⟩, .string ⟨#[46]⟩, .string ⟨#[44]⟩, .string ⟨#[44]⟩, .string ⟨#[45]⟩, .string ⟨#[37]⟩, .string ⟨#[36]⟩, .bool true, .bool false, .slice (some ⟨b2, 0, none⟩) 1 1] 0 W (by intro i hi; match i, hi with | 0, _ => exact Option.isSome_of_eq_some ga0 | 1, _ => exact Option.isSome_of_eq_some ga1 | 2, _ => exact Option.isSome_of_eq_some ga2 | 3, _ => exact Option.isSome_of_eq_some ga3 | 4, _ => exact Option.isSome_of_eq_some ga4 | 5, _ => exact Option.isSome_of_eq_some ga5 | 6, _ => exact Option.isSome_of_eq_some ga6 | 7, _ => exact Option.isSome_of_eq_some ga7 | 8, _ => exact Option.isSome_of_eq_some ga8 | 9, _ => exact Option.isSome_of_eq_some ga9 | n + 10, h => exact absurd h (by simp))
  have hcR := World.cell?_setCells_in (w.heap.size + 1) [.string ⟨#[101, 110]⟩, .string ⟨#[46]⟩, .string ⟨#[44]⟩, .string ⟨#[44]⟩, .string ⟨#[45]⟩, .string ⟨#[37]⟩, .string ⟨#[36]⟩, .bool true, .bool false, .int .i64 3] 0 (W.setCells w.heap.size 0 [.string ⟨#[101, 110]⟩, .string ⟨#[46]⟩, .string ⟨#[44]⟩, .string ⟨#[44]⟩, .string ⟨#[45]⟩, .string ⟨#[37]⟩, .string ⟨#[36]⟩, .bool true, .bool false, .slice (some ⟨b2, 0, none⟩) 1 1]) (by
    intro i hi
    rw [World.cell?_setCells_out _ _ _ _ _ (fun e => absurd e (by simp))]
    match i, hi with | 0, _ => exact Option.isSome_of_eq_some gb0 | 1, _ => exact Option.isSome_of_eq_some gb1 | 2, _ => exact Option.isSome_of_eq_some gb2 | 3, _ => exact Option.isSome_of_eq_some gb3 | 4, _ => exact Option.isSome_of_eq_some gb4 | 5, _ => exact Option.isSome_of_eq_some gb5 | 6, _ => exact Option.isSome_of_eq_some gb6 | 7, _ => exact Option.isSome_of_eq_some gb7 | 8, _ => exact Option.isSome_of_eq_some gb8 | 9, _ => exact Option.isSome_of_eq_some gb9 | n + 10, h => exact absurd h (by simp))
  have hother : ∀ k, X.cell? ⟨b2, k, none⟩ = W.cell? ⟨b2, k, none⟩ := fun k => by
    rw [hX, cell_drew1, World.cell?_setCells_out _ _ _ _ _ (fun e => absurd e (by simp; omega)), World.cell?_setCells_out _ _ _ _ _ (fun e => absurd e (by simp; omega))]
  have hXs : X.heap.size = W.heap.size := by rw [hX, size_drew', size_setCells, size_setCells]
  have hXB : Below w.heap.size w X := by rw [hX]; exact (below_setCells (Nat.le_succ _) _ _ (below_setCells (Nat.le_refl _) _ _ HBW.out)).drew
  have ea0 : X.cell? ⟨w.heap.size, 0, none⟩ = some (.string ⟨#[101, 110]⟩) := by
    rw [hX, cell_drew1, World.cell?_setCells_out _ _ _ _ _ (fun e => absurd e (by simp))]; exact hcP 0 (by simp)
  have eb0 : X.cell? ⟨w.heap.size + 1, 0, none⟩ = some (.string ⟨#[101, 110]⟩) := by
    rw [hX, cell_drew1]; exact hcR 0 (by simp)
  have ea1 : X.cell? ⟨w.heap.size, 1, none⟩ = some (.string ⟨#[46]⟩) := by
    rw [hX, cell_drew1, World.cell?_setCells_out _ _ _ _ _ (fun e => absurd e (by simp))]; exact hcP 1 (by simp)
  have eb1 : X.cell? ⟨w.heap.size + 1, 1, none⟩ = some (.string ⟨#[46]⟩) := by
    rw [hX, cell_drew1]; exact hcR 1 (by simp)
  have ea2 : X.cell? ⟨w.heap.size, 2, none⟩ = some (.string ⟨#[44]⟩) := by
    rw [hX, cell_drew1, World.cell?_setCells_out _ _ _ _ _ (fun e => absurd e (by simp))]; exact hcP 2 (by simp)
  have eb2 : X.cell? ⟨w.heap.size + 1, 2, none⟩ = some (.string ⟨#[44]⟩) := by
    rw [hX, cell_drew1]; exact hcR 2 (by simp)
  have ea3 : X.cell? ⟨w.heap.size, 3, none⟩ = some (.string ⟨#[44]⟩) := by
    rw [hX, cell_drew1, World.cell?_setCells_out _ _ _ _ _ (fun e => absurd e (by simp))]; exact hcP 3 (by simp)
  have eb3 : X.cell? ⟨w.heap.size + 1, 3, none⟩ = some (.string ⟨#[44]⟩) := by
    rw [hX, cell_drew1]; exact hcR 3 (by simp)
  have ea4 : X.cell? ⟨w.heap.size, 4, none⟩ = some (.string ⟨#[45]⟩) := by
    rw [hX, cell_drew1, World.cell?_setCells_out _ _ _ _ _ (fun e => absurd e (by simp))]; exact hcP 4 (by simp)
  have eb4 : X.cell? ⟨w.heap.size + 1, 4, none⟩ = some (.string ⟨#[45]⟩) := by
    rw [hX, cell_drew1]; exact hcR 4 (by simp)
  have ea5 : X.cell? ⟨w.heap.size, 5, none⟩ = some (.string ⟨#[37]⟩) := by
    rw [hX, cell_drew1, World.cell?_setCells_out _ _ _ _ _ (fun e => absurd e (by simp))]; exact hcP 5 (by simp)
  have eb5 : X.cell? ⟨w.heap.size + 1, 5, none⟩ = some (.string ⟨#[37]⟩) := by
    rw [hX, cell_drew1]; exact hcR 5 (by simp)
  have ea6 : X.cell? ⟨w.heap.size, 6, none⟩ = some (.string ⟨#[36]⟩) := by
    rw [hX, cell_drew1, World.cell?_setCells_out _ _ _ _ _ (fun e => absurd e (by simp))]; exact hcP 6 (by simp)
  have eb6 : X.cell? ⟨w.heap.size + 1, 6, none⟩ = some (.string ⟨#[36]⟩) := by
    rw [hX, cell_drew1]; exact hcR 6 (by simp)
  have ea7 : X.cell? ⟨w.heap.size, 7, none⟩ = some (.bool true) := by
    rw [hX, cell_drew1, World.cell?_setCells_out _ _ _ _ _ (fun e => absurd e (by simp))]; exact hcP 7 (by simp)
  have eb7 : X.cell? ⟨w.heap.size + 1, 7, none⟩ = some (.bool true) := by
    rw [hX, cell_drew1]; exact hcR 7 (by simp)
  have ea8 : X.cell? ⟨w.heap.size, 8, none⟩ = some (.bool false) := by
    rw [hX, cell_drew1, World.cell?_setCells_out _ _ _ _ _ (fun e => absurd e (by simp))]; exact hcP 8 (by simp)
  have eb8 : X.cell? ⟨w.heap.size + 1, 8, none⟩ = some (.bool false) := by
    rw [hX, cell_drew1]; exact hcR 8 (by simp)
  have ea9 : X.cell? ⟨w.heap.size, 9, none⟩ = some (.slice (some ⟨b2, 0, none⟩) 1 1) := by
    rw [hX, cell_drew1, World.cell?_setCells_out _ _ _ _ _ (fun e => absurd e (by simp))]; exact hcP 9 (by simp)
  have eb9 : X.cell? ⟨w.heap.size + 1, 9, none⟩ = some (.int .i64 3) := by
    rw [hX, cell_drew1]; exact hcR 9 (by simp)
  change bodyPost _ _ _ _ _ ((W.setCells w.heap.size 0 [.string ⟨#[101, 110]⟩, .string ⟨#[46]⟩, .string ⟨#[44]⟩, .string ⟨#[44]⟩, .string ⟨#[45]⟩, .string ⟨#[37]⟩, .string ⟨#[36]⟩, .bool true, .bool false, .slice (some ⟨b2, 0, none⟩) 1 1]).setCells (w.heap.size + 1) 0 [.string ⟨#[101, 110]⟩, .string ⟨#[46]⟩, .string ⟨#[44]⟩, .string ⟨#[44]⟩, .string ⟨#[45]⟩, .string ⟨#[37]⟩, .string ⟨#[36]⟩, .bool true, .bool false, .int .i64 3]).drew
  rw [← hX]
  have hszs : Szs X b2 Lc.en := by
    obtain ⟨h1, h2, h3⟩ := HS2.out
    have hk : ∀ k, X.cell? ⟨b2, k, none⟩ = w2.cell? ⟨b2, k, none⟩ := fun k => (hother k).trans (HWC.out k)
    exact ⟨by omega, (hk 0).trans h2, fun e => (hk 1).trans (h3 e)⟩
  clear hX hcP hcR hother ga0 ga1 ga2 ga3 ga4 ga5 ga6 ga7 ga8 ga9 gb0 gb1 gb2 gb3 gb4 gb5 gb6 gb7 gb8 gb9 gc0 gc1 gc2 gc3 gc4 gc5 gc6 gc7 gc8 gc9 gd0 gd1 gd2 gd3 gd4 gd5 gd6 gd7 gd8 gd9 fga0 fga1 fga2 fga3 fga4 fga5 fga6 fga7 fga8 fga9 fgb0 fgb1 fgb2 fgb3 fgb4 fgb5 fgb6 fgb7 fgb8 fgb9
  (refine bodyPost_ret (v := .tuple #[LV b2 Lc.en, RV Lc.en]) (by simp [results, Tryd.results13, go_sem, RV, LV, tx, Lc.en, Lc.Loc.second, ea0, eb0, ea1, eb1, ea2, eb2, ea3, eb3, ea4, eb4, ea5, eb5, ea6, eb6, ea7, eb7, ea8, eb8, ea9, eb9]; done) rfl ⟨b2, rfl, by omega, hszs, hXB⟩)

set_option maxRecDepth 100000 in
set_option maxHeartbeats 4000000 in
theorem l11_find_fr (c : Int) (w : World) (hv : Vars w) (hc : -9223372036854775808 ≤ c ∧ c ≤ 9223372036854775807) (hp : pickC c = 3) : Calls Tryd.prog 13 #[.int .i64 c] w (Find2 Lc.fr w) := by
  have hpk := fun w => l11_pick_any c w hc
  rw [hp] at hpk
  have HPK := Lib.hid hpk; have HV := Lib.hid hv
  clear hpk hv hp hc
  go_enter Tryd.func13, Tryd.ntmps13
  go_wp2_with (first
    | (go_at_call 41; (with_reducible refine (HPK.out _).mono ?_); rintro e w' ⟨rfl, rfl⟩)
    | (go_at_call 27; (with_reducible refine (r11_all_any _).mono ?_); rintro e w1 ⟨b, rfl, hlow, ⟨hb1, ⟨c0_0, c0_1, c0_2, c0_3, c0_4, c0_5, c0_6, c0_7, c0_8, c0_9⟩, ⟨c1_0, c1_1, c1_2, c1_3, c1_4, c1_5, c1_6, c1_7, c1_8, c1_9⟩, ⟨c2_0, c2_1, c2_2, c2_3, c2_4, c2_5, c2_6, c2_7, c2_8, c2_9⟩, ⟨c3_0, c3_1, c3_2, c3_3, c3_4, c3_5, c3_6, c3_7, c3_8, c3_9⟩, ⟨c4_0, c4_1, c4_2, c4_3, c4_4, c4_5, c4_6, c4_7, c4_8, c4_9⟩, ⟨c5_0, c5_1, c5_2, c5_3, c5_4, c5_5, c5_6, c5_7, c5_8, c5_9⟩⟩, hbel⟩; clear c0_0 c0_1 c0_2 c0_3 c0_4 c0_5 c0_6 c0_7 c0_8 c0_9 c1_0 c1_1 c1_2 c1_3 c1_4 c1_5 c1_6 c1_7 c1_8 c1_9 c2_0 c2_1 c2_2 c2_3 c2_4 c2_5 c2_6 c2_7 c2_8 c2_9 c4_0 c4_1 c4_2 c4_3 c4_4 c4_5 c4_6 c4_7 c4_8 c4_9 c5_0 c5_1 c5_2 c5_3 c5_4 c5_5 c5_6 c5_7 c5_8 c5_9; have hB_w1 : Below w.heap.size w w1 := Below.trans (by (repeat (first | exact Below.refl _ _ | assumption | refine Below.setCell ?_ (by first | omega | (simp <;> omega)) _ | refine Below.alloc ?_ (by first | omega | (simp <;> omega)) _ | refine Below.drew ?_ | refine below_drewN' ?_ _))) (hbel.mono (by simp; omega)); have hcz := hbel.size; simp only [World.size_alloc] at hcz hlow)
    | (go_at_call 28; (with_reducible refine (lo_find_fr _ (HV.out.on (by (repeat (first | exact Below.refl _ _ | assumption | refine Below.setCell ?_ (by first | omega | (simp <;> omega)) _ | refine Below.alloc ?_ (by first | omega | (simp <;> omega)) _ | refine Below.drew ?_ | refine below_drewN' ?_ _))))).mono ?_); rintro e w2 ⟨b2, rfl, hlow2, hs2, hbel2⟩; simp only [LV, tx, Lc.fr, if_true, if_false, Bool.false_eq_true]))
  obtain ⟨W, hW⟩ : ∃ W, W = w2.alloc (.cells #[.string ⟨#[102, 114]⟩, .string ⟨#[44]⟩, .string ⟨#[226, 128, 175]⟩, .string ⟨#[59]⟩, .string ⟨#[45]⟩, .string ⟨#[37]⟩, .string ⟨#[226, 130, 172]⟩, .bool false, .bool true, .slice (some ⟨b2, 0, none⟩) 1 1] 25) := ⟨_, rfl⟩
  have hWs : W.heap.size = w2.heap.size + 1 := by rw [hW]; simp
  have hBW : Below w.heap.size w W := by rw [hW]; exact ((hB_w1.alloc hB_w1.size _).trans (hbel2.mono (by simp; omega))).alloc (by have := hbel2.size; simp at this; omega) _
  have hB2 : Below w1.heap.size w1 w2 := Below.trans ((Below.refl _ _).alloc (Nat.le_refl _) _) (hbel2.mono (by simp))
  have ga0 : W.cell? ⟨w.heap.size, 0, none⟩ = some (.string ⟨#[]⟩) := by
    rw [hW]; exact (cell_alloc_old (by have := hbel2.size; simp at this; omega)).trans ((hB2.cell (p := ⟨w.heap.size, 0, none⟩) (show w.heap.size < w1.heap.size by omega)).trans (((bcell hbel).1 (w.heap.size) 0 (by simp; try omega)).trans (by simp [go_sem])))
  have fga0 : W.frozen? ⟨w.heap.size, 0, none⟩ = false := by
    rw [hW]; exact (frozen_alloc_old (by have := hbel2.size; simp at this; omega)).trans ((hB2.frozen (p := ⟨w.heap.size, 0, none⟩) (show w.heap.size < w1.heap.size by omega)).trans (((bcell hbel).2 (w.heap.size) 0 (by simp; try omega)).trans (by simp [go_sem])))
  have gb0 : W.cell? ⟨w.heap.size + 1, 0, none⟩ = some (.string ⟨#[]⟩) := by
    rw [hW]; exact (cell_alloc_old (by have := hbel2.size; simp at this; omega)).trans ((hB2.cell (p := ⟨w.heap.size + 1, 0, none⟩) (show w.heap.size + 1 < w1.heap.size by omega)).trans (((bcell hbel).1 (w.heap.size + 1) 0 (by simp; try omega)).trans (by simp [go_sem])))
  have fgb0 : W.frozen? ⟨w.heap.size + 1, 0, none⟩ = false := by
    rw [hW]; exact (frozen_alloc_old (by have := hbel2.size; simp at this; omega)).trans ((hB2.frozen (p := ⟨w.heap.size + 1, 0, none⟩) (show w.heap.size + 1 < w1.heap.size by omega)).trans (((bcell hbel).2 (w.heap.size + 1) 0 (by simp; try omega)).trans (by simp [go_sem])))
  have gc0 : W.cell? ⟨w1.heap.size, 0, none⟩ = some (.string ⟨#[102, 114]⟩) := by
    rw [hW]; exact (cell_alloc_old (by have := hbel2.size; simp at this; omega)).trans ((hbel2.cell (p := ⟨w1.heap.size, 0, none⟩) (by simp)).trans (by simp [go_sem]))
  have gd0 : W.cell? ⟨w2.heap.size, 0, none⟩ = some (.string ⟨#[102, 114]⟩) := by rw [hW]; simp [go_sem]
  have ga1 : W.cell? ⟨w.heap.size, 1, none⟩ = some (.string ⟨#[]⟩) := by
    rw [hW]; exact (cell_alloc_old (by have := hbel2.size; simp at this; omega)).trans ((hB2.cell (p := ⟨w.heap.size, 1, none⟩) (show w.heap.size < w1.heap.size by omega)).trans (((bcell hbel).1 (w.heap.size) 1 (by simp; try omega)).trans (by simp [go_sem])))
  have fga1 : W.frozen? ⟨w.heap.size, 1, none⟩ = false := by
    rw [hW]; exact (frozen_alloc_old (by have := hbel2.size; simp at this; omega)).trans ((hB2.frozen (p := ⟨w.heap.size, 1, none⟩) (show w.heap.size < w1.heap.size by omega)).trans (((bcell hbel).2 (w.heap.size) 1 (by simp; try omega)).trans (by simp [go_sem])))
  have gb1 : W.cell? ⟨w.heap.size + 1, 1, none⟩ = some (.string ⟨#[]⟩) := by
    rw [hW]; exact (cell_alloc_old (by have := hbel2.size; simp at this; omega)).trans ((hB2.cell (p := ⟨w.heap.size + 1, 1, none⟩) (show w.heap.size + 1 < w1.heap.size by omega)).trans (((bcell hbel).1 (w.heap.size + 1) 1 (by simp; try omega)).trans (by simp [go_sem])))
  have fgb1 : W.frozen? ⟨w.heap.size + 1, 1, none⟩ = false := by
    rw [hW]; exact (frozen_alloc_old (by have := hbel2.size; simp at this; omega)).trans ((hB2.frozen (p := ⟨w.heap.size + 1, 1, none⟩) (show w.heap.size + 1 < w1.heap.size by omega)).trans (((bcell hbel).2 (w.heap.size + 1) 1 (by simp; try omega)).trans (by simp [go_sem])))
  have gc1 : W.cell? ⟨w1.heap.size, 1, none⟩ = some (.string ⟨#[44]⟩) := by
    rw [hW]; exact (cell_alloc_old (by have := hbel2.size; simp at this; omega)).trans ((hbel2.cell (p := ⟨w1.heap.size, 1, none⟩) (by simp)).trans (by simp [go_sem]))
  have gd1 : W.cell? ⟨w2.heap.size, 1, none⟩ = some (.string ⟨#[44]⟩) := by rw [hW]; simp [go_sem]
  have ga2 : W.cell? ⟨w.heap.size, 2, none⟩ = some (.string ⟨#[]⟩) := by
    rw [hW]; exact (cell_alloc_old (by have := hbel2.size; simp at this; omega)).trans ((hB2.cell (p := ⟨w.heap.size, 2, none⟩) (show w.heap.size < w1.heap.size by omega)).trans (((bcell hbel).1 (w.heap.size) 2 (by simp; try omega)).trans (by simp [go_sem])))
  have fga2 : W.frozen? ⟨w.heap.size, 2, none⟩ = false := by
    rw [hW]; exact (frozen_alloc_old (by have := hbel2.size; simp at this; omega)).trans ((hB2.frozen (p := ⟨w.heap.size, 2, none⟩) (show w.heap.size < w1.heap.size by omega)).trans (((bcell hbel).2 (w.heap.size) 2 (by simp; try omega)).trans (by simp [go_sem])))
  have gb2 : W.cell? ⟨w.heap.size + 1, 2, none⟩ = some (.string ⟨#[]⟩) := by
    rw [hW]; exact (cell_alloc_old (by have := hbel2.size; simp at this; omega)).trans ((hB2.cell (p := ⟨w.heap.size + 1, 2, none⟩) (show w.heap.size + 1 < w1.heap.size by omega)).trans (((bcell hbel).1 (w.heap.size + 1) 2 (by simp; try omega)).trans (by simp [go_sem])))
  have fgb2 : W.frozen? ⟨w.heap.size + 1, 2, none⟩ = false := by
    rw [hW]; exact (frozen_alloc_old (by have := hbel2.size; simp at this; omega)).trans ((hB2.frozen (p := ⟨w.heap.size + 1, 2, none⟩) (show w.heap.size + 1 < w1.heap.size by omega)).trans (((bcell hbel).2 (w.heap.size + 1) 2 (by simp; try omega)).trans (by simp [go_sem])))
  have gc2 : W.cell? ⟨w1.heap.size, 2, none⟩ = some (.string ⟨#[226, 128, 175]⟩) := by
    rw [hW]; exact (cell_alloc_old (by have := hbel2.size; simp at this; omega)).trans ((hbel2.cell (p := ⟨w1.heap.size, 2, none⟩) (by simp)).trans (by simp [go_sem]))
  have gd2 : W.cell? ⟨w2.heap.size, 2, none⟩ = some (.string ⟨#[226, 128, 175]⟩) := by rw [hW]; simp [go_sem]
  have ga3 : W.cell? ⟨w.heap.size, 3, none⟩ = some (.string ⟨#[]⟩) := by
    rw [hW]; exact (cell_alloc_old (by have := hbel2.size; simp at this; omega)).trans ((hB2.cell (p := ⟨w.heap.size, 3, none⟩) (show w.heap.size < w1.heap.size by omega)).trans (((bcell hbel).1 (w.heap.size) 3 (by simp; try omega)).trans (by simp [go_sem])))
  have fga3 : W.frozen? ⟨w.heap.size, 3, none⟩ = false := by
    rw [hW]; exact (frozen_alloc_old (by have := hbel2.size; simp at this; omega)).trans ((hB2.frozen (p := ⟨w.heap.size, 3, none⟩) (show w.heap.size < w1.heap.size by omega)).trans (((bcell hbel).2 (w.heap.size) 3 (by simp; try omega)).trans (by simp [go_sem])))
  have gb3 : W.cell? ⟨w.heap.size + 1, 3, none⟩ = some (.string ⟨#[]⟩) := by
    rw [hW]; exact (cell_alloc_old (by have := hbel2.size; simp at this; omega)).trans ((hB2.cell (p := ⟨w.heap.size + 1, 3, none⟩) (show w.heap.size + 1 < w1.heap.size by omega)).trans (((bcell hbel).1 (w.heap.size + 1) 3 (by simp; try omega)).trans (by simp [go_sem])))
  have fgb3 : W.frozen? ⟨w.heap.size + 1, 3, none⟩ = false := by
    rw [hW]; exact (frozen_alloc_old (by have := hbel2.size; simp at this; omega)).trans ((hB2.frozen (p := ⟨w.heap.size + 1, 3, none⟩) (show w.heap.size + 1 < w1.heap.size by omega)).trans (((bcell hbel).2 (w.heap.size + 1) 3 (by simp; try omega)).trans (by simp [go_sem])))
  have gc3 : W.cell? ⟨w1.heap.size, 3, none⟩ = some (.string ⟨#[59]⟩) := by
    rw [hW]; exact (cell_alloc_old (by have := hbel2.size; simp at this; omega)).trans ((hbel2.cell (p := ⟨w1.heap.size, 3, none⟩) (by simp)).trans (by simp [go_sem]))
  have gd3 : W.cell? ⟨w2.heap.size, 3, none⟩ = some (.string ⟨#[59]⟩) := by rw [hW]; simp [go_sem]
  have ga4 : W.cell? ⟨w.heap.size, 4, none⟩ = some (.string ⟨#[]⟩) := by
    rw [hW]; exact (cell_alloc_old (by have := hbel2.size; simp at this; omega)).trans ((hB2.cell (p := ⟨w.heap.size, 4, none⟩) (show w.heap.size < w1.heap.size by omega)).trans (((bcell hbel).1 (w.heap.size) 4 (by simp; try omega)).trans (by simp [go_sem])))
  have fga4 : W.frozen? ⟨w.heap.size, 4, none⟩ = false := by
    rw [hW]; exact (frozen_alloc_old (by have := hbel2.size; simp at this; omega)).trans ((hB2.frozen (p := ⟨w.heap.size, 4, none⟩) (show w.heap.size < w1.heap.size by omega)).trans (((bcell hbel).2 (w.heap.size) 4 (by simp; try omega)).trans (by simp [go_sem])))
  have gb4 : W.cell? ⟨w.heap.size + 1, 4, none⟩ = some (.string ⟨#[]⟩) := by
    rw [hW]; exact (cell_alloc_old (by have := hbel2.size; simp at this; omega)).trans ((hB2.cell (p := ⟨w.heap.size + 1, 4, none⟩) (show w.heap.size + 1 < w1.heap.size by omega)).trans (((bcell hbel).1 (w.heap.size + 1) 4 (by simp; try omega)).trans (by simp [go_sem])))
  have fgb4 : W.frozen? ⟨w.heap.size + 1, 4, none⟩ = false := by
    rw [hW]; exact (frozen_alloc_old (by have := hbel2.size; simp at this; omega)).trans ((hB2.frozen (p := ⟨w.heap.size + 1, 4, none⟩) (show w.heap.size + 1 < w1.heap.size by omega)).trans (((bcell hbel).2 (w.heap.size + 1) 4 (by simp; try omega)).trans (by simp [go_sem])))
  have gc4 : W.cell? ⟨w1.heap.size, 4, none⟩ = some (.string ⟨#[45]⟩) := by
    rw [hW]; exact (cell_alloc_old (by have := hbel2.size; simp at this; omega)).trans ((hbel2.cell (p := ⟨w1.heap.size, 4, none⟩) (by simp)).trans (by simp [go_sem]))
  have gd4 : W.cell? ⟨w2.heap.size, 4, none⟩ = some (.string ⟨#[45]⟩) := by rw [hW]; simp [go_sem]
  have ga5 : W.cell? ⟨w.heap.size, 5, none⟩ = some (.string ⟨#[]⟩) := by
    rw [hW]; exact (cell_alloc_old (by have := hbel2.size; simp at this; omega)).trans ((hB2.cell (p := ⟨w.heap.size, 5, none⟩) (show w.heap.size < w1.heap.size by omega)).trans (((bcell hbel).1 (w.heap.size) 5 (by simp; try omega)).trans (by simp [go_sem])))
  have fga5 : W.frozen? ⟨w.heap.size, 5, none⟩ = false := by
    rw [hW]; exact (frozen_alloc_old (by have := hbel2.size; simp at this; omega)).trans ((hB2.frozen (p := ⟨w.heap.size, 5, none⟩) (show w.heap.size < w1.heap.size by omega)).trans (((bcell hbel).2 (w.heap.size) 5 (by simp; try omega)).trans (by simp [go_sem])))
  have gb5 : W.cell? ⟨w.heap.size + 1, 5, none⟩ = some (.string ⟨#[]⟩) := by
    rw [hW]; exact (cell_alloc_old (by have := hbel2.size; simp at this; omega)).trans ((hB2.cell (p := ⟨w.heap.size + 1, 5, none⟩) (show w.heap.size + 1 < w1.heap.size by omega)).trans (((bcell hbel).1 (w.heap.size + 1) 5 (by simp; try omega)).trans (by simp [go_sem])))
  have fgb5 : W.frozen? ⟨w.heap.size + 1, 5, none⟩ = false := by
    rw [hW]; exact (frozen_alloc_old (by have := hbel2.size; simp at this; omega)).trans ((hB2.frozen (p := ⟨w.heap.size + 1, 5, none⟩) (show w.heap.size + 1 < w1.heap.size by omega)).trans (((bcell hbel).2 (w.heap.size + 1) 5 (by simp; try omega)).trans (by simp [go_sem])))
  have gc5 : W.cell? ⟨w1.heap.size, 5, none⟩ = some (.string ⟨#[37]⟩) := by
    rw [hW]; exact (cell_alloc_old (by have := hbel2.size; simp at this; omega)).trans ((hbel2.cell (p := ⟨w1.heap.size, 5, none⟩) (by simp)).trans (by simp [go_sem]))
  have gd5 : W.cell? ⟨w2.heap.size, 5, none⟩ = some (.string ⟨#[37]⟩) := by rw [hW]; simp [go_sem]
  have ga6 : W.cell? ⟨w.heap.size, 6, none⟩ = some (.string ⟨#[]⟩) := by
    rw [hW]; exact (cell_alloc_old (by have := hbel2.size; simp at this; omega)).trans ((hB2.cell (p := ⟨w.heap.size, 6, none⟩) (show w.heap.size < w1.heap.size by omega)).trans (((bcell hbel).1 (w.heap.size) 6 (by simp; try omega)).trans (by simp [go_sem])))
  have fga6 : W.frozen? ⟨w.heap.size, 6, none⟩ = false := by
    rw [hW]; exact (frozen_alloc_old (by have := hbel2.size; simp at this; omega)).trans ((hB2.frozen (p := ⟨w.heap.size, 6, none⟩) (show w.heap.size < w1.heap.size by omega)).trans (((bcell hbel).2 (w.heap.size) 6 (by simp; try omega)).trans (by simp [go_sem])))
  have gb6 : W.cell? ⟨w.heap.size + 1, 6, none⟩ = some (.string ⟨#[]⟩) := by
    rw [hW]; exact (cell_alloc_old (by have := hbel2.size; simp at this; omega)).trans ((hB2.cell (p := ⟨w.heap.size + 1, 6, none⟩) (show w.heap.size + 1 < w1.heap.size by omega)).trans (((bcell hbel).1 (w.heap.size + 1) 6 (by simp; try omega)).trans (by simp [go_sem])))
  have fgb6 : W.frozen? ⟨w.heap.size + 1, 6, none⟩ = false := by
    rw [hW]; exact (frozen_alloc_old (by have := hbel2.size; simp at this; omega)).trans ((hB2.frozen (p := ⟨w.heap.size + 1, 6, none⟩) (show w.heap.size + 1 < w1.heap.size by omega)).trans (((bcell hbel).2 (w.heap.size + 1) 6 (by simp; try omega)).trans (by simp [go_sem])))
  have gc6 : W.cell? ⟨w1.heap.size, 6, none⟩ = some (.string ⟨#[226, 130, 172]⟩) := by
    rw [hW]; exact (cell_alloc_old (by have := hbel2.size; simp at this; omega)).trans ((hbel2.cell (p := ⟨w1.heap.size, 6, none⟩) (by simp)).trans (by simp [go_sem]))
  have gd6 : W.cell? ⟨w2.heap.size, 6, none⟩ = some (.string ⟨#[226, 130, 172]⟩) := by rw [hW]; simp [go_sem]
  have ga7 : W.cell? ⟨w.heap.size, 7, none⟩ = some (.bool false) := by
    rw [hW]; exact (cell_alloc_old (by have := hbel2.size; simp at this; omega)).trans ((hB2.cell (p := ⟨w.heap.size, 7, none⟩) (show w.heap.size < w1.heap.size by omega)).trans (((bcell hbel).1 (w.heap.size) 7 (by simp; try omega)).trans (by simp [go_sem])))
  have fga7 : W.frozen? ⟨w.heap.size, 7, none⟩ = false := by
    rw [hW]; exact (frozen_alloc_old (by have := hbel2.size; simp at this; omega)).trans ((hB2.frozen (p := ⟨w.heap.size, 7, none⟩) (show w.heap.size < w1.heap.size by omega)).trans (((bcell hbel).2 (w.heap.size) 7 (by simp; try omega)).trans (by simp [go_sem])))
  have gb7 : W.cell? ⟨w.heap.size + 1, 7, none⟩ = some (.bool false) := by
    rw [hW]; exact (cell_alloc_old (by have := hbel2.size; simp at this; omega)).trans ((hB2.cell (p := ⟨w.heap.size + 1, 7, none⟩) (show w.heap.size + 1 < w1.heap.size by omega)).trans (((bcell hbel).1 (w.heap.size + 1) 7 (by simp; try omega)).trans (by simp [go_sem])))
  have fgb7 : W.frozen? ⟨w.heap.size + 1, 7, none⟩ = false := by
    rw [hW]; exact (frozen_alloc_old (by have := hbel2.size; simp at this; omega)).trans ((hB2.frozen (p := ⟨w.heap.size + 1, 7, none⟩) (show w.heap.size + 1 < w1.heap.size by omega)).trans (((bcell hbel).2 (w.heap.size + 1) 7 (by simp; try omega)).trans (by simp [go_sem])))
  have gc7 : W.cell? ⟨w1.heap.size, 7, none⟩ = some (.bool false) := by
    rw [hW]; exact (cell_alloc_old (by have := hbel2.size; simp at this; omega)).trans ((hbel2.cell (p := ⟨w1.heap.size, 7, none⟩) (by simp)).trans (by simp [go_sem]))
  have gd7 : W.cell? ⟨w2.heap.size, 7, none⟩ = some (.bool false) := by rw [hW]; simp [go_sem]
  have ga8 : W.cell? ⟨w.heap.size, 8, none⟩ = some (.bool false) := by
    rw [hW]; exact (cell_alloc_old (by have := hbel2.size; simp at this; omega)).trans ((hB2.cell (p := ⟨w.heap.size, 8, none⟩) (show w.heap.size < w1.heap.size by omega)).trans (((bcell hbel).1 (w.heap.size) 8 (by simp; try omega)).trans (by simp [go_sem])))
  have fga8 : W.frozen? ⟨w.heap.size, 8, none⟩ = false := by
    rw [hW]; exact (frozen_alloc_old (by have := hbel2.size; simp at this; omega)).trans ((hB2.frozen (p := ⟨w.heap.size, 8, none⟩) (show w.heap.size < w1.heap.size by omega)).trans (((bcell hbel).2 (w.heap.size) 8 (by simp; try omega)).trans (by simp [go_sem])))
  have gb8 : W.cell? ⟨w.heap.size + 1, 8, none⟩ = some (.bool false) := by
    rw [hW]; exact (cell_alloc_old (by have := hbel2.size; simp at this; omega)).trans ((hB2.cell (p := ⟨w.heap.size + 1, 8, none⟩) (show w.heap.size + 1 < w1.heap.size by omega)).trans (((bcell hbel).1 (w.heap.size + 1) 8 (by simp; try omega)).trans (by simp [go_sem])))
  have fgb8 : W.frozen? ⟨w.heap.size + 1, 8, none⟩ = false := by
    rw [hW]; exact (frozen_alloc_old (by have := hbel2.size; simp at this; omega)).trans ((hB2.frozen (p := ⟨w.heap.size + 1, 8, none⟩) (show w.heap.size + 1 < w1.heap.size by omega)).trans (((bcell hbel).2 (w.heap.size + 1) 8 (by simp; try omega)).trans (by simp [go_sem])))
  have gc8 : W.cell? ⟨w1.heap.size, 8, none⟩ = some (.bool true) := by
    rw [hW]; exact (cell_alloc_old (by have := hbel2.size; simp at this; omega)).trans ((hbel2.cell (p := ⟨w1.heap.size, 8, none⟩) (by simp)).trans (by simp [go_sem]))
  have gd8 : W.cell? ⟨w2.heap.size, 8, none⟩ = some (.bool true) := by rw [hW]; simp [go_sem]
  have ga9 : W.cell? ⟨w.heap.size, 9, none⟩ = some (.slice none 0 0) := by
    rw [hW]; exact (cell_alloc_old (by have := hbel2.size; simp at this; omega)).trans ((hB2.cell (p := ⟨w.heap.size, 9, none⟩) (show w.heap.size < w1.heap.size by omega)).trans (((bcell hbel).1 (w.heap.size) 9 (by simp; try omega)).trans (by simp [go_sem])))
  have fga9 : W.frozen? ⟨w.heap.size, 9, none⟩ = false := by
    rw [hW]; exact (frozen_alloc_old (by have := hbel2.size; simp at this; omega)).trans ((hB2.frozen (p := ⟨w.heap.size, 9, none⟩) (show w.heap.size < w1.heap.size by omega)).trans (((bcell hbel).2 (w.heap.size) 9 (by simp; try omega)).trans (by simp [go_sem])))
  have gb9 : W.cell? ⟨w.heap.size + 1, 9, none⟩ = some (.int .i64 0) := by
    rw [hW]; exact (cell_alloc_old (by have := hbel2.size; simp at this; omega)).trans ((hB2.cell (p := ⟨w.heap.size + 1, 9, none⟩) (show w.heap.size + 1 < w1.heap.size by omega)).trans (((bcell hbel).1 (w.heap.size + 1) 9 (by simp; try omega)).trans (by simp [go_sem])))
  have fgb9 : W.frozen? ⟨w.heap.size + 1, 9, none⟩ = false := by
    rw [hW]; exact (frozen_alloc_old (by have := hbel2.size; simp at this; omega)).trans ((hB2.frozen (p := ⟨w.heap.size + 1, 9, none⟩) (show w.heap.size + 1 < w1.heap.size by omega)).trans (((bcell hbel).2 (w.heap.size + 1) 9 (by simp; try omega)).trans (by simp [go_sem])))
  have gc9 : W.cell? ⟨w1.heap.size, 9, none⟩ = some (.int .i64 3) := by
    rw [hW]; exact (cell_alloc_old (by have := hbel2.size; simp at this; omega)).trans ((hbel2.cell (p := ⟨w1.heap.size, 9, none⟩) (by simp)).trans (by simp [go_sem]))
  have gd9 : W.cell? ⟨w2.heap.size, 9, none⟩ = some (.slice (some ⟨b2, 0, none⟩) 1 1) := by rw [hW]; simp [go_sem]
  rw [← hW]
  have hsz := hbel2.size
  simp only [World.size_alloc] at hsz
  have hWc : ∀ k, W.cell? ⟨b2, k, none⟩ = w2.cell? ⟨b2, k, none⟩ := fun k => by rw [hW]; exact cell_alloc_old hs2.1
  have HWC := Lib.hid hWc
  have hb2 : b2 < w2.heap.size := hs2.1
  have HS2 := Lib.hid hs2; have HBW := Lib.hid hBW
  simp only [World.size_alloc] at hlow2
  clear hWc hW hs2 hBW hB2 hbel2 hbel hB_w1
  go_region
  go_wp2
  obtain ⟨X, hX⟩ : ∃ X, X = ((W.setCells w.heap.size 0 [.string ⟨#[102, 114]⟩, .string ⟨#[44]⟩, .string ⟨#[226, 128, 175]⟩, .string ⟨#[59]⟩, .string ⟨#[45]⟩, .string ⟨#[37]⟩, .string ⟨#[226, 130, 172]⟩, .bool false, .bool true, .slice (some ⟨b2, 0, none⟩) 1 1]).setCells (w.heap.size + 1) 0 [.string ⟨#[102, 114]⟩, .string ⟨#[44]⟩, .string ⟨#[226, 128, 175]⟩, .string ⟨#[59]⟩, .string ⟨#[45]⟩, .string ⟨#[37]⟩, .string ⟨#[226, 130, 172]⟩, .bool false, .bool true, .int .i64 3]).drew := ⟨_, rfl⟩
  have hcP := World.cell?_setCells_in w.heap.size [.string ⟨#[102, 114]⟩, .string ⟨#[44]⟩, .string ⟨#[226, 128, 175]⟩, .string ⟨#[59]⟩, .string ⟨#[45]⟩, .string ⟨#[37]⟩, .string ⟨#[226, 130, 172]⟩, .bool false, .bool true, .slice (some ⟨b2, 0, none⟩) 1 1] 0 W (by intro i hi; match i, hi with | 0, _ => exact Option.isSome_of_eq_some ga0 | 1, _ => exact Option.isSome_of_eq_some ga1 | 2, _ => exact Option.isSome_of_eq_some ga2 | 3, _ => exact Option.isSome_of_eq_some ga3 | 4, _ => exact Option.isSome_of_eq_some ga4 | 5, _ => exact Option.isSome_of_eq_some ga5 | 6, _ => exact Option.isSome_of_eq_some ga6 | 7, _ => exact Option.isSome_of_eq_some ga7 | 8, _ => exact Option.isSome_of_eq_some ga8 | 9, _ => exact Option.isSome_of_eq_some ga9 | n + 10, h => exact absurd h (by simp))
  have hcR := World.cell?_setCells_in (w.heap.size + 1) [.string ⟨#[102, 114]⟩, .string ⟨#[44]⟩, .string ⟨#[226, 128, 175]⟩, .string ⟨#[59]⟩, .string ⟨#[45]⟩, .string ⟨#[37]⟩, .string ⟨#[226, 130, 172]⟩, .bool false, .bool true, .int .i64 3] 0 (W.setCells w.heap.size 0 [.string ⟨#[102, 114]⟩, .string ⟨#[44]⟩, .string ⟨#[226, 128, 175]⟩, .string ⟨#[59]⟩, .string ⟨#[45]⟩, .string ⟨#[37]⟩, .string ⟨#[226, 130, 172]⟩, .bool false, .bool true, .slice (some ⟨b2, 0, none⟩) 1 1]) (by
    intro i hi
    rw [World.cell?_setCells_out _ _ _ _ _ (fun e => absurd e (by simp))]
    match i, hi with | 0, _ => exact Option.isSome_of_eq_some gb0 | 1, _ => exact Option.isSome_of_eq_some gb1 | 2, _ => exact Option.isSome_of_eq_some gb2 | 3, _ => exact Option.isSome_of_eq_some gb3 | 4, _ => exact Option.isSome_of_eq_some gb4 | 5, _ => exact Option.isSome_of_eq_some gb5 | 6, _ => exact Option.isSome_of_eq_some gb6 | 7, _ => exact Option.isSome_of_eq_some gb7 | 8, _ => exact Option.isSome_of_eq_some gb8 | 9, _ => exact Option.isSome_of_eq_some gb9 | n + 10, h => exact absurd h (by simp))
  have hother : ∀ k, X.cell? ⟨b2, k, none⟩ = W.cell? ⟨b2, k, none⟩ := fun k => by
    rw [hX, cell_drew1, World.cell?_setCells_out _ _ _ _ _ (fun e => absurd e (by simp; omega)), World.cell?_setCells_out _ _ _ _ _ (fun e => absurd e (by simp; omega))]
  have hXs : X.heap.size = W.heap.size := by rw [hX, size_drew', size_setCells, size_setCells]
  have hXB : Below w.heap.size w X := by rw [hX]; exact (below_setCells (Nat.le_succ _) _ _ (below_setCells (Nat.le_refl _) _ _ HBW.out)).drew
  have ea0 : X.cell? ⟨w.heap.size, 0, none⟩ = some (.string ⟨#[102, 114]⟩) := by
    rw [hX, cell_drew1, World.cell?_setCells_out _ _ _ _ _ (fun e => absurd e (by simp))]; exact hcP 0 (by simp)
  have eb0 : X.cell? ⟨w.heap.size + 1, 0, none⟩ = some (.string ⟨#[102, 114]⟩) := by
    rw [hX, cell_drew1]; exact hcR 0 (by simp)
  have ea1 : X.cell? ⟨w.heap.size, 1, none⟩ = some (.string ⟨#[44]⟩) := by
    rw [hX, cell_drew1, World.cell?_setCells_out _ _ _ _ _ (fun e => absurd e (by simp))]; exact hcP 1 (by simp)
  have eb1 : X.cell? ⟨w.heap.size + 1, 1, none⟩ = some (.string ⟨#[44]⟩) := by
    rw [hX, cell_drew1]; exact hcR 1 (by simp)
  have ea2 : X.cell? ⟨w.heap.size, 2, none⟩ = some (.string ⟨#[226, 128, 175]⟩) := by
    rw [hX, cell_drew1, World.cell?_setCells_out _ _ _ _ _ (fun e => absurd e (by simp))]; exact hcP 2 (by simp)
  have eb2 : X.cell? ⟨w.heap.size + 1, 2, none⟩ = some (.string ⟨#[226, 128, 175]⟩) := by
    rw [hX, cell_drew1]; exact hcR 2 (by simp)
  have ea3 : X.cell? ⟨w.heap.size, 3, none⟩ = some (.string ⟨#[59]⟩) := by
    rw [hX, cell_drew1, World.cell?_setCells_out _ _ _ _ _ (fun e => absurd e (by simp))]; exact hcP 3 (by simp)
  have eb3 : X.cell? ⟨w.heap.size + 1, 3, none⟩ = some (.string ⟨#[59]⟩) := by
    rw [hX, cell_drew1]; exact hcR 3 (by simp)
  have ea4 : X.cell? ⟨w.heap.size, 4, none⟩ = some (.string ⟨#[45]⟩) := by
    rw [hX, cell_drew1, World.cell?_setCells_out _ _ _ _ _ (fun e => absurd e (by simp))]; exact hcP 4 (by simp)
  have eb4 : X.cell? ⟨w.heap.size + 1, 4, none⟩ = some (.string ⟨#[45]⟩) := by
    rw [hX, cell_drew1]; exact hcR 4 (by simp)
  have ea5 : X.cell? ⟨w.heap.size, 5, none⟩ = some (.string ⟨#[37]⟩) := by
    rw [hX, cell_drew1, World.cell?_setCells_out _ _ _ _ _ (fun e => absurd e (by simp))]; exact hcP 5 (by simp)
  have eb5 : X.cell? ⟨w.heap.size + 1, 5, none⟩ = some (.string ⟨#[37]⟩) := by
    rw [hX, cell_drew1]; exact hcR 5 (by simp)
  have ea6 : X.cell? ⟨w.heap.size, 6, none⟩ = some (.string ⟨#[226, 130, 172]⟩) := by
    rw [hX, cell_drew1, World.cell?_setCells_out _ _ _ _ _ (fun e => absurd e (by simp))]; exact hcP 6 (by simp)
  have eb6 : X.cell? ⟨w.heap.size + 1, 6, none⟩ = some (.string ⟨#[226, 130, 172]⟩) := by
    rw [hX, cell_drew1]; exact hcR 6 (by simp)
  have ea7 : X.cell? ⟨w.heap.size, 7, none⟩ = some (.bool false) := by
    rw [hX, cell_drew1, World.cell?_setCells_out _ _ _ _ _ (fun e => absurd e (by simp))]; exact hcP 7 (by simp)
  have eb7 : X.cell? ⟨w.heap.size + 1, 7, none⟩ = some (.bool false) := by
    rw [hX, cell_drew1]; exact hcR 7 (by simp)
  have ea8 : X.cell? ⟨w.heap.size, 8, none⟩ = some (.bool true) := by
    rw [hX, cell_drew1, World.cell?_setCells_out _ _ _ _ _ (fun e => absurd e (by simp))]; exact hcP 8 (by simp)
  have eb8 : X.cell? ⟨w.heap.size + 1, 8, none⟩ = some (.bool true) := by
    rw [hX, cell_drew1]; exact hcR 8 (by simp)
  have ea9 : X.cell? ⟨w.heap.size, 9, none⟩ = some (.slice (some ⟨b2, 0, none⟩) 1 1) := by
    rw [hX, cell_drew1, World.cell?_setCells_out _ _ _ _ _ (fun e => absurd e (by simp))]; exact hcP 9 (by simp)
  have eb9 : X.cell? ⟨w.heap.size + 1, 9, none⟩ = some (.int .i64 3) := by
    rw [hX, cell_drew1]; exact hcR 9 (by simp)
  change bodyPost _ _ _ _ _ ((W.setCells w.heap.size 0 [.string ⟨#[102, 114]⟩, .string ⟨#[44]⟩, .string ⟨#[226, 128, 175]⟩, .string ⟨#[59]⟩, .string ⟨#[45]⟩, .string ⟨#[37]⟩, .string ⟨#[226, 130, 172]⟩, .bool false, .bool true, .slice (some ⟨b2, 0, none⟩) 1 1]).setCells (w.heap.size + 1) 0 [.string ⟨#[102, 114]⟩, .string ⟨#[44]⟩, .string ⟨#[226, 128, 175]⟩, .string ⟨#[59]⟩, .string ⟨#[45]⟩, .string ⟨#[37]⟩, .string ⟨#[226, 130, 172]⟩, .bool false, .bool true, .int .i64 3]).drew
  rw [← hX]
  have hszs : Szs X b2 Lc.fr := by
    obtain ⟨h1, h2, h3⟩ := HS2.out
    have hk : ∀ k, X.cell? ⟨b2, k, none⟩ = w2.cell? ⟨b2, k, none⟩ := fun k => (hother k).trans (HWC.out k)
    exact ⟨by omega, (hk 0).trans h2, fun e => (hk 1).trans (h3 e)⟩
  clear hX hcP hcR hother ga0 ga1 ga2 ga3 ga4 ga5 ga6 ga7 ga8 ga9 gb0 gb1 gb2 gb3 gb4 gb5 gb6 gb7 gb8 gb9 gc0 gc1 gc2 gc3 gc4 gc5 gc6 gc7 gc8 gc9 gd0 gd1 gd2 gd3 gd4 gd5 gd6 gd7 gd8 gd9 fga0 fga1 fga2 fga3 fga4 fga5 fga6 fga7 fga8 fga9 fgb0 fgb1 fgb2 fgb3 fgb4 fgb5 fgb6 fgb7 fgb8 fgb9
  (refine bodyPost_ret (v := .tuple #[LV b2 Lc.fr, RV Lc.fr]) (by simp [results, Tryd.results13, go_sem, RV, LV, tx, Lc.fr, Lc.Loc.second, ea0, eb0, ea1, eb1, ea2, eb2, ea3, eb3, ea4, eb4, ea5, eb5, ea6, eb6, ea7, eb7, ea8, eb8, ea9, eb9]; done) rfl ⟨b2, rfl, by omega, hszs, hXB⟩)

set_option maxRecDepth 100000 in
set_option maxHeartbeats 4000000 in
theorem l11_find_hi (c : Int) (w : World) (hv : Vars w) (hc : -9223372036854775808 ≤ c ∧ c ≤ 9223372036854775807) (hp : pickC c = 4) : Calls Tryd.prog 13 #[.int .i64 c] w (Find2 Lc.hi w) := by
  have hpk := fun w => l11_pick_any c w hc
  rw [hp] at hpk
  have HPK := Lib.hid hpk; have HV := Lib.hid hv
  clear hpk hv hp hc
  go_enter Tryd.func13, Tryd.ntmps13
  go_wp2_with (first
    | (go_at_call 41; (with_reducible refine (HPK.out _).mono ?_); rintro e w' ⟨rfl, rfl⟩)
    | (go_at_call 27; (with_reducible refine (r11_all_any _).mono ?_); rintro e w1 ⟨b, rfl, hlow, ⟨hb1, ⟨c0_0, c0_1, c0_2, c0_3, c0_4, c0_5, c0_6, c0_7, c0_8, c0_9⟩, ⟨c1_0, c1_1, c1_2, c1_3, c1_4, c1_5, c1_6, c1_7, c1_8, c1_9⟩, ⟨c2_0, c2_1, c2_2, c2_3, c2_4, c2_5, c2_6, c2_7, c2_8, c2_9⟩, ⟨c3_0, c3_1, c3_2, c3_3, c3_4, c3_5, c3_6, c3_7, c3_8, c3_9⟩, ⟨c4_0, c4_1, c4_2, c4_3, c4_4, c4_5, c4_6, c4_7, c4_8, c4_9⟩, ⟨c5_0, c5_1, c5_2, c5_3, c5_4, c5_5, c5_6, c5_7, c5_8, c5_9⟩⟩, hbel⟩; clear c0_0 c0_1 c0_2 c0_3 c0_4 c0_5 c0_6 c0_7 c0_8 c0_9 c1_0 c1_1 c1_2 c1_3 c1_4 c1_5 c1_6 c1_7 c1_8 c1_9 c2_0 c2_1 c2_2 c2_3 c2_4 c2_5 c2_6 c2_7 c2_8 c2_9 c3_0 c3_1 c3_2 c3_3 c3_4 c3_5 c3_6 c3_7 c3_8 c3_9 c5_0 c5_1 c5_2 c5_3 c5_4 c5_5 c5_6 c5_7 c5_8 c5_9; have hB_w1 : Below w.heap.size w w1 := Below.trans (by (repeat (first | exact Below.refl _ _ | assumption | refine Below.setCell ?_ (by first | omega | (simp <;> omega)) _ | refine Below.alloc ?_ (by first | omega | (simp <;> omega)) _ | refine Below.drew ?_ | refine below_drewN' ?_ _))) (hbel.mono (by simp; omega)); have hcz := hbel.size; simp only [World.size_alloc] at hcz hlow)
    | (go_at_call 28; (with_reducible refine (lo_find_hi _ (HV.out.on (by (repeat (first | exact Below.refl _ _ | assumption | refine Below.setCell ?_ (by first | omega | (simp <;> omega)) _ | refine Below.alloc ?_ (by first | omega | (simp <;> omega)) _ | refine Below.drew ?_ | refine below_drewN' ?_ _))))).mono ?_); rintro e w2 ⟨b2, rfl, hlow2, hs2, hbel2⟩; simp only [LV, tx, Lc.hi, if_true, if_false, Bool.false_eq_true]))
  obtain ⟨W, hW⟩ : ∃ W, W = w2.alloc (.cells #[.string ⟨#[104, 105]⟩, .string ⟨#[46]⟩, .string ⟨#[44]⟩, .string ⟨#[44]⟩, .string ⟨#[45]⟩, .string ⟨#[37]⟩, .string ⟨#[226, 130, 185]⟩, .bool true, .bool false, .slice (some ⟨b2, 0, none⟩) 2 2] 25) := ⟨_, rfl⟩
  have hWs : W.heap.size = w2.heap.size + 1 := by rw [hW]; simp
  have hBW : Below w.heap.size w W := by rw [hW]; exact ((hB_w1.alloc hB_w1.size _).trans (hbel2.mono (by simp; omega))).alloc (by have := hbel2.size; simp at this; omega) _
  have hB2 : Below w1.heap.size w1 w2 := Below.trans ((Below.refl _ _).alloc (Nat.le_refl _) _) (hbel2.mono (by simp))
  have ga0 : W.cell? ⟨w.heap.size, 0, none⟩ = some (.string ⟨#[]⟩) := by
    rw [hW]; exact (cell_alloc_old (by have := hbel2.size; simp at this; omega)).trans ((hB2.cell (p := ⟨w.heap.size, 0, none⟩) (show w.heap.size < w1.heap.size by omega)).trans (((bcell hbel).1 (w.heap.size) 0 (by simp; try omega)).trans (by simp [go_sem])))
  have fga0 : W.frozen? ⟨w.heap.size, 0, none⟩ = false := by
    rw [hW]; exact (frozen_alloc_old (by have := hbel2.size; simp at this; omega)).trans ((hB2.frozen (p := ⟨w.heap.size, 0, none⟩) (show w.heap.size < w1.heap.size by omega)).trans (((bcell hbel).2 (w.heap.size) 0 (by simp; try omega)).trans (by simp [go_sem])))
  have gb0 : W.cell? ⟨w.heap.size + 1, 0, none⟩ = some (.string ⟨#[]⟩) := by
    rw [hW]; exact (cell_alloc_old (by have := hbel2.size; simp at this; omega)).trans ((hB2.cell (p := ⟨w.heap.size + 1, 0, none⟩) (show w.heap.size + 1 < w1.heap.size by omega)).trans (((bcell hbel).1 (w.heap.size + 1) 0 (by simp; try omega)).trans (by simp [go_sem])))
  have fgb0 : W.frozen? ⟨w.heap.size + 1, 0, none⟩ = false := by
    rw [hW]; exact (frozen_alloc_old (by have := hbel2.size; simp at this; omega)).trans ((hB2.frozen (p := ⟨w.heap.size + 1, 0, none⟩) (show w.heap.size + 1 < w1.heap.size by omega)).trans (((bcell hbel).2 (w.heap.size + 1) 0 (by simp; try omega)).trans (by simp [go_sem])))
  have gc0 : W.cell? ⟨w1.heap.size, 0, none⟩ = some (.string ⟨#[104, 105]⟩) := by
    rw [hW]; exact (cell_alloc_old (by have := hbel2.size; simp at this; omega)).trans ((hbel2.cell (p := ⟨w1.heap.size, 0, none⟩) (by simp)).trans (by simp [go_sem]))
  have gd0 : W.cell? ⟨w2.heap.size, 0, none⟩ = some (.string ⟨#[104, 105]⟩) := by rw [hW]; simp [go_sem]
  have ga1 : W.cell? ⟨w.heap.size, 1, none⟩ = some (.string ⟨#[]⟩) := by
    rw [hW]; exact (cell_alloc_old (by have := hbel2.size; simp at this; omega)).trans ((hB2.cell (p := ⟨w.heap.size, 1, none⟩) (show w.heap.size < w1.heap.size by omega)).trans (((bcell hbel).1 (w.heap.size) 1 (by simp; try omega)).trans (by simp [go_sem])))
  have fga1 : W.frozen? ⟨w.heap.size, 1, none⟩ = false := by
    rw [hW]; exact (frozen_alloc_old (by have := hbel2.size; simp at this; omega)).trans ((hB2.frozen (p := ⟨w.heap.size, 1, none⟩) (show w.heap.size < w1.heap.size by omega)).trans (((bcell hbel).2 (w.heap.size) 1 (by simp; try omega)).trans (by simp [go_sem])))
  have gb1 : W.cell? ⟨w.heap.size + 1, 1, none⟩ = some (.string ⟨#[]⟩) := by
    rw [hW]; exact (cell_alloc_old (by have := hbel2.size; simp at this; omega)).trans ((hB2.cell (p := ⟨w.heap.size + 1, 1, none⟩) (show w.heap.size + 1 < w1.heap.size by omega)).trans (((bcell hbel).1 (w.heap.size + 1) 1 (by simp; try omega)).trans (by simp [go_sem])))
  have fgb1 : W.frozen? ⟨w.heap.size + 1, 1, none⟩ = false := by
    rw [hW]; exact (frozen_alloc_old (by have := hbel2.size; simp at this; omega)).trans ((hB2.frozen (p := ⟨w.heap.size + 1, 1, none⟩) (show w.heap.size + 1 < w1.heap.size by omega)).trans (((bcell hbel).2 (w.heap.size + 1) 1 (by simp; try omega)).trans (by simp [go_sem])))
  have gc1 : W.cell? ⟨w1.heap.size, 1, none⟩ = some (.string ⟨#[46]⟩) := by
    rw [hW]; exact (cell_alloc_old (by have := hbel2.size; simp at this; omega)).trans ((hbel2.cell (p := ⟨w1.heap.size, 1, none⟩) (by simp)).trans (by simp [go_sem]))
  have gd1 : W.cell? ⟨w2.heap.size, 1, none⟩ = some (.string ⟨#[46]⟩) := by rw [hW]; simp [go_sem]
  have ga2 : W.cell? ⟨w.heap.size, 2, none⟩ = some (.string ⟨#[]⟩) := by
    rw [hW]; exact (cell_alloc_old (by have := hbel2.size; simp at this; omega)).trans ((hB2.cell (p := ⟨w.heap.size, 2, none⟩) (show w.heap.size < w1.heap.size by omega)).trans (((bcell hbel).1 (w.heap.size) 2 (by simp; try omega)).trans (by simp [go_sem])))
  have fga2 : W.frozen? ⟨w.heap.size, 2, none⟩ = false := by
    rw [hW]; exact (frozen_alloc_old (by have := hbel2.size; simp at this; omega)).trans ((hB2.frozen (p := ⟨w.heap.size, 2, none⟩) (show w.heap.size < w1.heap.size by omega)).trans (((bcell hbel).2 (w.heap.size) 2 (by simp; try omega)).trans (by simp [go_sem])))
  have gb2 : W.cell? ⟨w.heap.size + 1, 2, none⟩ = some (.string ⟨#[]⟩) := by
    rw [hW]; exact (cell_alloc_old (by have := hbel2.size; simp at this; omega)).trans ((hB2.cell (p := ⟨w.heap.size + 1, 2, none⟩) (show w.heap.size + 1 < w1.heap.size by omega)).trans (((bcell hbel).1 (w.heap.size + 1) 2 (by simp; try omega)).trans (by simp [go_sem])))
  have fgb2 : W.frozen? ⟨w.heap.size + 1, 2, none⟩ = false := by
    rw [hW]; exact (frozen_alloc_old (by have := hbel2.size; simp at this; omega)).trans ((hB2.frozen (p := ⟨w.heap.size + 1, 2, none⟩) (show w.heap.size + 1 < w1.heap.size by omega)).trans (((bcell hbel).2 (w.heap.size + 1) 2 (by simp; try omega)).trans (by simp [go_sem])))
  have gc2 : W.cell? ⟨w1.heap.size, 2, none⟩ = some (.string ⟨#[44]⟩) := by
    rw [hW]; exact (cell_alloc_old (by have := hbel2.size; simp at this; omega)).trans ((hbel2.cell (p := ⟨w1.heap.size, 2, none⟩) (by simp)).trans (by simp [go_sem]))
  have gd2 : W.cell? ⟨w2.heap.size, 2, none⟩ = some (.string ⟨#[44]⟩) := by rw [hW]; simp [go_sem]
  have ga3 : W.cell? ⟨w.heap.size, 3, none⟩ = some (.string ⟨#[]⟩) := by
    rw [hW]; exact (cell_alloc_old (by have := hbel2.size; simp at this; omega)).trans ((hB2.cell (p := ⟨w.heap.size, 3, none⟩) (show w.heap.size < w1.heap.size by omega)).trans (((bcell hbel).1 (w.heap.size) 3 (by simp; try omega)).trans (by simp [go_sem])))
  have fga3 : W.frozen? ⟨w.heap.size, 3, none⟩ = false := by
    rw [hW]; exact (frozen_alloc_old (by have := hbel2.size; simp at this; omega)).trans ((hB2.frozen (p := ⟨w.heap.size, 3, none⟩) (show w.heap.size < w1.heap.size by omega)).trans (((bcell hbel).2 (w.heap.size) 3 (by simp; try omega)).trans (by simp [go_sem])))
  have gb3 : W.cell? ⟨w.heap.size + 1, 3, none⟩ = some (.string ⟨#[]⟩) := by
    rw [hW]; exact (cell_alloc_old (by have := hbel2.size; simp at this; omega)).trans ((hB2.cell (p := ⟨w.heap.size + 1, 3, none⟩) (show w.heap.size + 1 < w1.heap.size by omega)).trans (((bcell hbel).1 (w.heap.size + 1) 3 (by simp; try omega)).trans (by simp [go_sem])))
  have fgb3 : W.frozen? ⟨w.heap.size + 1, 3, none⟩ = false := by
    rw [hW]; exact (frozen_alloc_old (by have := hbel2.size; simp at this; omega)).trans ((hB2.frozen (p := ⟨w.heap.size + 1, 3, none⟩) (show w.heap.size + 1 < w1.heap.size by omega)).trans (((bcell hbel).2 (w.heap.size + 1) 3 (by simp; try omega)).trans (by simp [go_sem])))
  have gc3 : W.cell? ⟨w1.heap.size, 3, none⟩ = some (.string ⟨#[44]⟩) := by
    rw [hW]; exact (cell_alloc_old (by have := hbel2.size; simp at this; omega)).trans ((hbel2.cell (p := ⟨w1.heap.size, 3, none⟩) (by simp)).trans (by simp [go_sem]))
  have gd3 : W.cell? ⟨w2.heap.size, 3, none⟩ = some (.string ⟨#[44]⟩) := by rw [hW]; simp [go_sem]
  have ga4 : W.cell? ⟨w.heap.size, 4, none⟩ = some (.string ⟨#[]⟩) := by
    rw [hW]; exact (cell_alloc_old (by have := hbel2.size; simp at this; omega)).trans ((hB2.cell (p := ⟨w.heap.size, 4, none⟩) (show w.heap.size < w1.heap.size by omega)).trans (((bcell hbel).1 (w.heap.size) 4 (by simp; try omega)).trans (by simp [go_sem])))
  have fga4 : W.frozen? ⟨w.heap.size, 4, none⟩ = false := by
    rw [hW]; exact (frozen_alloc_old (by have := hbel2.size; simp at this; omega)).trans ((hB2.frozen (p := ⟨w.heap.size, 4, none⟩) (show w.heap.size < w1.heap.size by omega)).trans (((bcell hbel).2 (w.heap.size) 4 (by simp; try omega)).trans (by simp [go_sem])))
  have gb4 : W.cell? ⟨w.heap.size + 1, 4, none⟩ = some (.string ⟨#[]⟩) := by
    rw [hW]; exact (cell_alloc_old (by have := hbel2.size; simp at this; omega)).trans ((hB2.cell (p := ⟨w.heap.size + 1, 4, none⟩) (show w.heap.size + 1 < w1.heap.size by omega)).trans (((bcell hbel).1 (w.heap.size + 1) 4 (by simp; try omega)).trans (by simp [go_sem])))
  have fgb4 : W.frozen? ⟨w.heap.size + 1, 4, none⟩ = false := by
    rw [hW]; exact (frozen_alloc_old (by have := hbel2.size; simp at this; omega)).trans ((hB2.frozen (p := ⟨w.heap.size + 1, 4, none⟩) (show w.heap.size + 1 < w1.heap.size by omega)).trans (((bcell hbel).2 (w.heap.size + 1) 4 (by simp; try omega)).trans (by simp [go_sem])))
  have gc4 : W.cell? ⟨w1.heap.size, 4, none⟩ = some (.string ⟨#[45]⟩) := by
    rw [hW]; exact (cell_alloc_old (by have := hbel2.size; simp at this; omega)).trans ((hbel2.cell (p := ⟨w1.heap.size, 4, none⟩) (by simp)).trans (by simp [go_sem]))
  have gd4 : W.cell? ⟨w2.heap.size, 4, none⟩ = some (.string ⟨#[45]⟩) := by rw [hW]; simp [go_sem]
  have ga5 : W.cell? ⟨w.heap.size, 5, none⟩ = some (.string ⟨#[]⟩) := by
    rw [hW]; exact (cell_alloc_old (by have := hbel2.size; simp at this; omega)).trans ((hB2.cell (p := ⟨w.heap.size, 5, none⟩) (show w.heap.size < w1.heap.size by omega)).trans (((bcell hbel).1 (w.heap.size) 5 (by simp; try omega)).trans (by simp [go_sem])))
  have fga5 : W.frozen? ⟨w.heap.size, 5, none⟩ = false := by
    rw [hW]; exact (frozen_alloc_old (by have := hbel2.size; simp at this; omega)).trans ((hB2.frozen (p := ⟨w.heap.size, 5, none⟩) (show w.heap.size < w1.heap.size by omega)).trans (((bcell hbel).2 (w.heap.size) 5 (by simp; try omega)).trans (by simp [go_sem])))
  have gb5 : W.cell? ⟨w.heap.size + 1, 5, none⟩ = some (.string ⟨#[]⟩) := by
    rw [hW]; exact (cell_alloc_old (by have := hbel2.size; simp at this; omega)).trans ((hB2.cell (p := ⟨w.heap.size + 1, 5, none⟩) (show w.heap.size + 1 < w1.heap.size by omega)).trans (((bcell hbel).1 (w.heap.size + 1) 5 (by simp; try omega)).trans (by simp [go_sem])))
  have fgb5 : W.frozen? ⟨w.heap.size + 1, 5, none⟩ = false := by
    rw [hW]; exact (frozen_alloc_old (by have := hbel2.size; simp at this; omega)).trans ((hB2.frozen (p := ⟨w.heap.size + 1, 5, none⟩) (show w.heap.size + 1 < w1.heap.size by omega)).trans (((bcell hbel).2 (w.heap.size + 1) 5 (by simp; try omega)).trans (by simp [go_sem])))
  have gc5 : W.cell? ⟨w1.heap.size, 5, none⟩ = some (.string ⟨#[37]⟩) := by
    rw [hW]; exact (cell_alloc_old (by have := hbel2.size; simp at this; omega)).trans ((hbel2.cell (p := ⟨w1.heap.size, 5, none⟩) (by simp)).trans (by simp [go_sem]))
  have gd5 : W.cell? ⟨w2.heap.size, 5, none⟩ = some (.string ⟨#[37]⟩) := by rw [hW]; simp [go_sem]
  have ga6 : W.cell? ⟨w.heap.size, 6, none⟩ = some (.string ⟨#[]⟩) := by
    rw [hW]; exact (cell_alloc_old (by have := hbel2.size; simp at this; omega)).trans ((hB2.cell (p := ⟨w.heap.size, 6, none⟩) (show w.heap.size < w1.heap.size by omega)).trans (((bcell hbel).1 (w.heap.size) 6 (by simp; try omega)).trans (by simp [go_sem])))
  have fga6 : W.frozen? ⟨w.heap.size, 6, none⟩ = false := by
    rw [hW]; exact (frozen_alloc_old (by have := hbel2.size; simp at this; omega)).trans ((hB2.frozen (p := ⟨w.heap.size, 6, none⟩) (show w.heap.size < w1.heap.size by omega)).trans (((bcell hbel).2 (w.heap.size) 6 (by simp; try omega)).trans (by simp [go_sem])))
  have gb6 : W.cell? ⟨w.heap.size + 1, 6, none⟩ = some (.string ⟨#[]⟩) := by
    rw [hW]; exact (cell_alloc_old (by have := hbel2.size; simp at this; omega)).trans ((hB2.cell (p := ⟨w.heap.size + 1, 6, none⟩) (show w.heap.size + 1 < w1.heap.size by omega)).trans (((bcell hbel).1 (w.heap.size + 1) 6 (by simp; try omega)).trans (by simp [go_sem])))
  have fgb6 : W.frozen? ⟨w.heap.size + 1, 6, none⟩ = false := by
    rw [hW]; exact (frozen_alloc_old (by have := hbel2.size; simp at this; omega)).trans ((hB2.frozen (p := ⟨w.heap.size + 1, 6, none⟩) (show w.heap.size + 1 < w1.heap.size by omega)).trans (((bcell hbel).2 (w.heap.size + 1) 6 (by simp; try omega)).trans (by simp [go_sem])))
  have gc6 : W.cell? ⟨w1.heap.size, 6, none⟩ = some (.string ⟨#[226, 130, 185]⟩) := by
    rw [hW]; exact (cell_alloc_old (by have := hbel2.size; simp at this; omega)).trans ((hbel2.cell (p := ⟨w1.heap.size, 6, none⟩) (by simp)).trans (by simp [go_sem]))
  have gd6 : W.cell? ⟨w2.heap.size, 6, none⟩ = some (.string ⟨#[226, 130, 185]⟩) := by rw [hW]; simp [go_sem]
  have ga7 : W.cell? ⟨w.heap.size, 7, none⟩ = some (.bool false) := by
    rw [hW]; exact (cell_alloc_old (by have := hbel2.size; simp at this; omega)).trans ((hB2.cell (p := ⟨w.heap.size, 7, none⟩) (show w.heap.size < w1.heap.size by omega)).trans (((bcell hbel).1 (w.heap.size) 7 (by simp; try omega)).trans (by simp [go_sem])))
  have fga7 : W.frozen? ⟨w.heap.size, 7, none⟩ = false := by
    rw [hW]; exact (frozen_alloc_old (by have := hbel2.size; simp at this; omega)).trans ((hB2.frozen (p := ⟨w.heap.size, 7, none⟩) (show w.heap.size < w1.heap.size by omega)).trans (((bcell hbel).2 (w.heap.size) 7 (by simp; try omega)).trans (by simp [go_sem])))
  have gb7 : W.cell? ⟨w.heap.size + 1, 7, none⟩ = some (.bool false) := by
    rw [hW]; exact (cell_alloc_old (by have := hbel2.size; simp at this; omega)).trans ((hB2.cell (p := ⟨w.heap.size + 1, 7, none⟩) (show w.heap.size + 1 < w1.heap.size by omega)).trans (((bcell hbel).1 (w.heap.size + 1) 7 (by simp; try omega)).trans (by simp [go_sem])))
  have fgb7 : W.frozen? ⟨w.heap.size + 1, 7, none⟩ = false := by
    rw [hW]; exact (frozen_alloc_old (by have := hbel2.size; simp at this; omega)).trans ((hB2.frozen (p := ⟨w.heap.size + 1, 7, none⟩) (show w.heap.size + 1 < w1.heap.size by omega)).trans (((bcell hbel).2 (w.heap.size + 1) 7 (by simp; try omega)).trans (by simp [go_sem])))
  have gc7 : W.cell? ⟨w1.heap.size, 7, none⟩ = some (.bool true) := by
    rw [hW]; exact (cell_alloc_old (by have := hbel2.size; simp at this; omega)).trans ((hbel2.cell (p := ⟨w1.heap.size, 7, none⟩) (by simp)).trans (by simp [go_sem]))
  have gd7 : W.cell? ⟨w2.heap.size, 7, none⟩ = some (.bool true) := by rw [hW]; simp [go_sem]
  have ga8 : W.cell? ⟨w.heap.size, 8, none⟩ = some (.bool false) := by
    rw [hW]; exact (cell_alloc_old (by have := hbel2.size; simp at this; omega)).trans ((hB2.cell (p := ⟨w.heap.size, 8, none⟩) (show w.heap.size < w1.heap.size by omega)).trans (((bcell hbel).1 (w.heap.size) 8 (by simp; try omega)).trans (by simp [go_sem])))
  have fga8 : W.frozen? ⟨w.heap.size, 8, none⟩ = false := by
    rw [hW]; exact (frozen_alloc_old (by have := hbel2.size; simp at this; omega)).trans ((hB2.frozen (p := ⟨w.heap.size, 8, none⟩) (show w.heap.size < w1.heap.size by omega)).trans (((bcell hbel).2 (w.heap.size) 8 (by simp; try omega)).trans (by simp [go_sem])))
  have gb8 : W.cell? ⟨w.heap.size + 1, 8, none⟩ = some (.bool false) := by
    rw [hW]; exact (cell_alloc_old (by have := hbel2.size; simp at this; omega)).trans ((hB2.cell (p := ⟨w.heap.size + 1, 8, none⟩) (show w.heap.size + 1 < w1.heap.size by omega)).trans (((bcell hbel).1 (w.heap.size + 1) 8 (by simp; try omega)).trans (by simp [go_sem])))
  have fgb8 : W.frozen? ⟨w.heap.size + 1, 8, none⟩ = false := by
    rw [hW]; exact (frozen_alloc_old (by have := hbel2.size; simp at this; omega)).trans ((hB2.frozen (p := ⟨w.heap.size + 1, 8, none⟩) (show w.heap.size + 1 < w1.heap.size by omega)).trans (((bcell hbel).2 (w.heap.size + 1) 8 (by simp; try omega)).trans (by simp [go_sem])))
  have gc8 : W.cell? ⟨w1.heap.size, 8, none⟩ = some (.bool false) := by
    rw [hW]; exact (cell_alloc_old (by have := hbel2.size; simp at this; omega)).trans ((hbel2.cell (p := ⟨w1.heap.size, 8, none⟩) (by simp)).trans (by simp [go_sem]))
  have gd8 : W.cell? ⟨w2.heap.size, 8, none⟩ = some (.bool false) := by rw [hW]; simp [go_sem]
  have ga9 : W.cell? ⟨w.heap.size, 9, none⟩ = some (.slice none 0 0) := by
    rw [hW]; exact (cell_alloc_old (by have := hbel2.size; simp at this; omega)).trans ((hB2.cell (p := ⟨w.heap.size, 9, none⟩) (show w.heap.size < w1.heap.size by omega)).trans (((bcell hbel).1 (w.heap.size) 9 (by simp; try omega)).trans (by simp [go_sem])))
  have fga9 : W.frozen? ⟨w.heap.size, 9, none⟩ = false := by
    rw [hW]; exact (frozen_alloc_old (by have := hbel2.size; simp at this; omega)).trans ((hB2.frozen (p := ⟨w.heap.size, 9, none⟩) (show w.heap.size < w1.heap.size by omega)).trans (((bcell hbel).2 (w.heap.size) 9 (by simp; try omega)).trans (by simp [go_sem])))
  have gb9 : W.cell? ⟨w.heap.size + 1, 9, none⟩ = some (.int .i64 0) := by
    rw [hW]; exact (cell_alloc_old (by have := hbel2.size; simp at this; omega)).trans ((hB2.cell (p := ⟨w.heap.size + 1, 9, none⟩) (show w.heap.size + 1 < w1.heap.size by omega)).trans (((bcell hbel).1 (w.heap.size + 1) 9 (by simp; try omega)).trans (by simp [go_sem])))
  have fgb9 : W.frozen? ⟨w.heap.size + 1, 9, none⟩ = false := by
    rw [hW]; exact (frozen_alloc_old (by have := hbel2.size; simp at this; omega)).trans ((hB2.frozen (p := ⟨w.heap.size + 1, 9, none⟩) (show w.heap.size + 1 < w1.heap.size by omega)).trans (((bcell hbel).2 (w.heap.size + 1) 9 (by simp; try omega)).trans (by simp [go_sem])))
  have gc9 : W.cell? ⟨w1.heap.size, 9, none⟩ = some (.int .i64 2) := by
    rw [hW]; exact (cell_alloc_old (by have := hbel2.size; simp at this; omega)).trans ((hbel2.cell (p := ⟨w1.heap.size, 9, none⟩) (by simp)).trans (by simp [go_sem]))
  have gd9 : W.cell? ⟨w2.heap.size, 9, none⟩ = some (.slice (some ⟨b2, 0, none⟩) 2 2) := by rw [hW]; simp [go_sem]
  rw [← hW]
  have hsz := hbel2.size
  simp only [World.size_alloc] at hsz
  have hWc : ∀ k, W.cell? ⟨b2, k, none⟩ = w2.cell? ⟨b2, k, none⟩ := fun k => by rw [hW]; exact cell_alloc_old hs2.1
  have HWC := Lib.hid hWc
  have hb2 : b2 < w2.heap.size := hs2.1
  have HS2 := Lib.hid hs2; have HBW := Lib.hid hBW
  simp only [World.size_alloc] at hlow2
  clear hWc hW hs2 hBW hB2 hbel2 hbel hB_w1
  go_region
  go_wp2
  obtain ⟨X, hX⟩ : ∃ X, X = ((W.setCells w.heap.size 0 [.string ⟨#[104, 105]⟩, .string ⟨#[46]⟩, .string ⟨#[44]⟩, .string ⟨#[44]⟩, .string ⟨#[45]⟩, .string ⟨#[37]⟩, .string ⟨#[226, 130, 185]⟩, .bool true, .bool false, .slice (some ⟨b2, 0, none⟩) 2 2]).setCells (w.heap.size + 1) 0 [.string ⟨#[104, 105]⟩, .string ⟨#[46]⟩, .string ⟨#[44]⟩, .string ⟨#[44]⟩, .string ⟨#[45]⟩, .string ⟨#[37]⟩, .string ⟨#[226, 130, 185]⟩, .bool true, .bool false, .int .i64 2]).drew := ⟨_, rfl⟩
  have hcP := World.cell?_setCells_in w.heap.size [.string ⟨#[104, 105]⟩, .string ⟨#[46]⟩, .string ⟨#[44]⟩, .string ⟨#[44]⟩, .string ⟨#[45]⟩, .string ⟨#[37]⟩, .string ⟨#[226, 130, 185]⟩, .bool true, .bool false, .slice (some ⟨b2, 0, none⟩) 2 2] 0 W (by intro i hi; match i, hi with | 0, _ => exact Option.isSome_of_eq_some ga0 | 1, _ => exact Option.isSome_of_eq_some ga1 | 2, _ => exact Option.isSome_of_eq_some ga2 | 3, _ => exact Option.isSome_of_eq_some ga3 | 4, _ => exact Option.isSome_of_eq_some ga4 | 5, _ => exact Option.isSome_of_eq_some ga5 | 6, _ => exact Option.isSome_of_eq_some ga6 | 7, _ => exact Option.isSome_of_eq_some ga7 | 8, _ => exact Option.isSome_of_eq_some ga8 | 9, _ => exact Option.isSome_of_eq_some ga9 | n + 10, h => exact absurd h (by simp))
  have hcR := World.cell?_setCells_in (w.heap.size + 1) [.string ⟨#[104, 105]⟩, .string ⟨#[46]⟩, .string ⟨#[44]⟩, .string ⟨#[44]⟩, .string ⟨#[45]⟩, .string ⟨#[37]⟩, .string ⟨#[226, 130, 185]⟩, .bool true, .bool false, .int .i64 2] 0 (W.setCells w.heap.size 0 [.string ⟨#[104, 105]⟩, .string ⟨#[46]⟩, .string ⟨#[44]⟩, .string ⟨#[44]⟩, .string ⟨#[45]⟩, .string ⟨#[37]⟩, .string ⟨#[226, 130, 185]⟩, .bool true, .bool false, .slice (some ⟨b2, 0, none⟩) 2 2]) (by
    intro i hi
    rw [World.cell?_setCells_out _ _ _ _ _ (fun e => absurd e (by simp))]
    match i, hi with | 0, _ => exact Option.isSome_of_eq_some gb0 | 1, _ => exact Option.isSome_of_eq_some gb1 | 2, _ => exact Option.isSome_of_eq_some gb2 | 3, _ => exact Option.isSome_of_eq_some gb3 | 4, _ => exact Option.isSome_of_eq_some gb4 | 5, _ => exact Option.isSome_of_eq_some gb5 | 6, _ => exact Option.isSome_of_eq_some gb6 | 7, _ => exact Option.isSome_of_eq_some gb7 | 8, _ => exact Option.isSome_of_eq_some gb8 | 9, _ => exact Option.isSome_of_eq_some gb9 | n + 10, h => exact absurd h (by simp))
  have hother : ∀ k, X.cell? ⟨b2, k, none⟩ = W.cell? ⟨b2, k, none⟩ := fun k => by
    rw [hX, cell_drew1, World.cell?_setCells_out _ _ _ _ _ (fun e => absurd e (by simp; omega)), World.cell?_setCells_out _ _ _ _ _ (fun e => absurd e (by simp; omega))]
  have hXs : X.heap.size = W.heap.size := by rw [hX, size_drew', size_setCells, size_setCells]
  have hXB : Below w.heap.size w X := by rw [hX]; exact (below_setCells (Nat.le_succ _) _ _ (below_setCells (Nat.le_refl _) _ _ HBW.out)).drew
  have ea0 : X.cell? ⟨w.heap.size, 0, none⟩ = some (.string ⟨#[104, 105]⟩) := by
    rw [hX, cell_drew1, World.cell?_setCells_out _ _ _ _ _ (fun e => absurd e (by simp))]; exact hcP 0 (by simp)
  have eb0 : X.cell? ⟨w.heap.size + 1, 0, none⟩ = some (.string ⟨#[104, 105]⟩) := by
    rw [hX, cell_drew1]; exact hcR 0 (by simp)
  have ea1 : X.cell? ⟨w.heap.size, 1, none⟩ = some (.string ⟨#[46]⟩) := by
    rw [hX, cell_drew1, World.cell?_setCells_out _ _ _ _ _ (fun e => absurd e (by simp))]; exact hcP 1 (by simp)
  have eb1 : X.cell? ⟨w.heap.size + 1, 1, none⟩ = some (.string ⟨#[46]⟩) := by
    rw [hX, cell_drew1]; exact hcR 1 (by simp)
  have ea2 : X.cell? ⟨w.heap.size, 2, none⟩ = some (.string ⟨#[44]⟩) := by
    rw [hX, cell_drew1, World.cell?_setCells_out _ _ _ _ _ (fun e => absurd e (by simp))]; exact hcP 2 (by simp)
  have eb2 : X.cell? ⟨w.heap.size + 1, 2, none⟩ = some (.string ⟨#[44]⟩) := by
    rw [hX, cell_drew1]; exact hcR 2 (by simp)
  have ea3 : X.cell? ⟨w.heap.size, 3, none⟩ = some (.string ⟨#[44]⟩) := by
    rw [hX, cell_drew1, World.cell?_setCells_out _ _ _ _ _ (fun e => absurd e (by simp))]; exact hcP 3 (by simp)
  have eb3 : X.cell? ⟨w.heap.size + 1, 3, none⟩ = some (.string ⟨#[44]⟩) := by
    rw [hX, cell_drew1]; exact hcR 3 (by simp)
  have ea4 : X.cell? ⟨w.heap.size, 4, none⟩ = some (.string ⟨#[45]⟩) := by
    rw [hX, cell_drew1, World.cell?_setCells_out _ _ _ _ _ (fun e => absurd e (by simp))]; exact hcP 4 (by simp)
  have eb4 : X.cell? ⟨w.heap.size + 1, 4, none⟩ = some (.string ⟨#[45]⟩) := by
    rw [hX, cell_drew1]; exact hcR 4 (by simp)
  have ea5 : X.cell? ⟨w.heap.size, 5, none⟩ = some (.string ⟨#[37]⟩) := by
    rw [hX, cell_drew1, World.cell?_setCells_out _ _ _ _ _ (fun e => absurd e (by simp))]; exact hcP 5 (by simp)
  have eb5 : X.cell? ⟨w.heap.size + 1, 5, none⟩ = some (.string ⟨#[37]⟩) := by
    rw [hX, cell_drew1]; exact hcR 5 (by simp)
  have ea6 : X.cell? ⟨w.heap.size, 6, none⟩ = some (.string ⟨#[226, 130, 185]⟩) := by
    rw [hX, cell_drew1, World.cell?_setCells_out _ _ _ _ _ (fun e => absurd e (by simp))]; exact hcP 6 (by simp)
  have eb6 : X.cell? ⟨w.heap.size + 1, 6, none⟩ = some (.string ⟨#[226, 130, 185]⟩) := by
    rw [hX, cell_drew1]; exact hcR 6 (by simp)
  have ea7 : X.cell? ⟨w.heap.size, 7, none⟩ = some (.bool true) := by
    rw [hX, cell_drew1, World.cell?_setCells_out _ _ _ _ _ (fun e => absurd e (by simp))]; exact hcP 7 (by simp)
  have eb7 : X.cell? ⟨w.heap.size + 1, 7, none⟩ = some (.bool true) := by
    rw [hX, cell_drew1]; exact hcR 7 (by simp)
  have ea8 : X.cell? ⟨w.heap.size, 8, none⟩ = some (.bool false) := by
    rw [hX, cell_drew1, World.cell?_setCells_out _ _ _ _ _ (fun e => absurd e (by simp))]; exact hcP 8 (by simp)
  have eb8 : X.cell? ⟨w.heap.size + 1, 8, none⟩ = some (.bool false) := by
    rw [hX, cell_drew1]; exact hcR 8 (by simp)
  have ea9 : X.cell? ⟨w.heap.size, 9, none⟩ = some (.slice (some ⟨b2, 0, none⟩) 2 2) := by
    rw [hX, cell_drew1, World.cell?_setCells_out _ _ _ _ _ (fun e => absurd e (by simp))]; exact hcP 9 (by simp)
  have eb9 : X.cell? ⟨w.heap.size + 1, 9, none⟩ = some (.int .i64 2) := by
    rw [hX, cell_drew1]; exact hcR 9 (by simp)
  change bodyPost _ _ _ _ _ ((W.setCells w.heap.size 0 [.string ⟨#[104, 105]⟩, .string ⟨#[46]⟩, .string ⟨#[44]⟩, .string ⟨#[44]⟩, .string ⟨#[45]⟩, .string ⟨#[37]⟩, .string ⟨#[226, 130, 185]⟩, .bool true, .bool false, .slice (some ⟨b2, 0, none⟩) 2 2]).setCells (w.heap.size + 1) 0 [.string ⟨#[104, 105]⟩, .string ⟨#[46]⟩, .string ⟨#[44]⟩, .string ⟨#[44]⟩, .string ⟨#[45]⟩, .string ⟨#[37]⟩, .string ⟨#[226, 130, 185]⟩, .bool true, .bool false, .int .i64 2]).drew
  rw [← hX]
  have hszs : Szs X b2 Lc.hi := by
    obtain ⟨h1, h2, h3⟩ := HS2.out
    have hk : ∀ k, X.cell? ⟨b2, k, none⟩ = w2.cell? ⟨b2, k, none⟩ := fun k => (hother k).trans (HWC.out k)
    exact ⟨by omega, (hk 0).trans h2, fun e => (hk 1).trans (h3 e)⟩
  clear hX hcP hcR hother ga0 ga1 ga2 ga3 ga4 ga5 ga6 ga7 ga8 ga9 gb0 gb1 gb2 gb3 gb4 gb5 gb6 gb7 gb8 gb9 gc0 gc1 gc2 gc3 gc4 gc5 gc6 gc7 gc8 gc9 gd0 gd1 gd2 gd3 gd4 gd5 gd6 gd7 gd8 gd9 fga0 fga1 fga2 fga3 fga4 fga5 fga6 fga7 fga8 fga9 fgb0 fgb1 fgb2 fgb3 fgb4 fgb5 fgb6 fgb7 fgb8 fgb9
  (refine bodyPost_ret (v := .tuple #[LV b2 Lc.hi, RV Lc.hi]) (by simp [results, Tryd.results13, go_sem, RV, LV, tx, Lc.hi, Lc.Loc.second, ea0, eb0, ea1, eb1, ea2, eb2, ea3, eb3, ea4, eb4, ea5, eb5, ea6, eb6, ea7, eb7, ea8, eb8, ea9, eb9]; done) rfl ⟨b2, rfl, by omega, hszs, hXB⟩)

set_option maxRecDepth 100000 in
set_option maxHeartbeats 4000000 in
theorem l11_find_sv (c : Int) (w : World) (hv : Vars w) (hc : -9223372036854775808 ≤ c ∧ c ≤ 9223372036854775807) (hp : pickC c = 5) : Calls Tryd.prog 13 #[.int .i64 c] w (Find2 Lc.sv w) := by
  have hpk := fun w => l11_pick_any c w hc
  rw [hp] at hpk
  have HPK := Lib.hid hpk; have HV := Lib.hid hv
  clear hpk hv hp hc
  go_enter Tryd.func13, Tryd.ntmps13
  go_wp2_with (first
    | (go_at_call 41; (with_reducible refine (HPK.out _).mono ?_); rintro e w' ⟨rfl, rfl⟩)
    | (go_at_call 27; (with_reducible refine (r11_all_any _).mono ?_); rintro e w1 ⟨b, rfl, hlow, ⟨hb1, ⟨c0_0, c0_1, c0_2, c0_3, c0_4, c0_5, c0_6, c0_7, c0_8, c0_9⟩, ⟨c1_0, c1_1, c1_2, c1_3, c1_4, c1_5, c1_6, c1_7, c1_8, c1_9⟩, ⟨c2_0, c2_1, c2_2, c2_3, c2_4, c2_5, c2_6, c2_7, c2_8, c2_9⟩, ⟨c3_0, c3_1, c3_2, c3_3, c3_4, c3_5, c3_6, c3_7, c3_8, c3_9⟩, ⟨c4_0, c4_1, c4_2, c4_3, c4_4, c4_5, c4_6, c4_7, c4_8, c4_9⟩, ⟨c5_0, c5_1, c5_2, c5_3, c5_4, c5_5, c5_6, c5_7, c5_8, c5_9⟩⟩, hbel⟩; clear c0_0 c0_1 c0_2 c0_3 c0_4 c0_5 c0_6 c0_7 c0_8 c0_9 c1_0 c1_1 c1_2 c1_3 c1_4 c1_5 c1_6 c1_7 c1_8 c1_9 c2_0 c2_1 c2_2 c2_3 c2_4 c2_5 c2_6 c2_7 c2_8 c2_9 c3_0 c3_1 c3_2 c3_3 c3_4 c3_5 c3_6 c3_7 c3_8 c3_9 c4_0 c4_1 c4_2 c4_3 c4_4 c4_5 c4_6 c4_7 c4_8 c4_9; have hB_w1 : Below w.heap.size w w1 := Below.trans (by (repeat (first | exact Below.refl _ _ | assumption | refine Below.setCell ?_ (by first | omega | (simp <;> omega)) _ | refine Below.alloc ?_ (by first | omega | (simp <;> omega)) _ | refine Below.drew ?_ | refine below_drewN' ?_ _))) (hbel.mono (by simp; omega)); have hcz := hbel.size; simp only [World.size_alloc] at hcz hlow)
    | (go_at_call 28; (with_reducible refine (lo_find_sv _ (HV.out.on (by (repeat (first | exact Below.refl _ _ | assumption | refine Below.setCell ?_ (by first | omega | (simp <;> omega)) _ | refine Below.alloc ?_ (by first | omega | (simp <;> omega)) _ | refine Below.drew ?_ | refine below_drewN' ?_ _))))).mono ?_); rintro e w2 ⟨b2, rfl, hlow2, hs2, hbel2⟩; simp only [LV, tx, Lc.sv, if_true, if_false, Bool.false_eq_true]))
  obtain ⟨W, hW⟩ : ∃ W, W = w2.alloc (.cells #[.string ⟨#[115, 118]⟩, .string ⟨#[44]⟩, .string ⟨#[194, 160]⟩, .string ⟨#[59]⟩, .string ⟨#[226, 136, 146]⟩, .string ⟨#[37]⟩, .string ⟨#[107, 114]⟩, .bool false, .bool true, .slice (some ⟨b2, 0, none⟩) 1 1] 25) := ⟨_, rfl⟩
  have hWs : W.heap.size = w2.heap.size + 1 := by rw [hW]; simp
  have hBW : Below w.heap.size w W := by rw [hW]; exact ((hB_w1.alloc hB_w1.size _).trans (hbel2.mono (by simp; omega))).alloc (by have := hbel2.size; simp at this; omega) _
  have hB2 : Below w1.heap.size w1 w2 := Below.trans ((Below.refl _ _).alloc (Nat.le_refl _) _) (hbel2.mono (by simp))
  have ga0 : W.cell? ⟨w.heap.size, 0, none⟩ = some (.string ⟨#[]⟩) := by
    rw [hW]; exact (cell_alloc_old (by have := hbel2.size; simp at this; omega)).trans ((hB2.cell (p := ⟨w.heap.size, 0, none⟩) (show w.heap.size < w1.heap.size by omega)).trans (((bcell hbel).1 (w.heap.size) 0 (by simp; try omega)).trans (by simp [go_sem])))
  have fga0 : W.frozen? ⟨w.heap.size, 0, none⟩ = false := by
    rw [hW]; exact (frozen_alloc_old (by have := hbel2.size; simp at this; omega)).trans ((hB2.frozen (p := ⟨w.heap.size, 0, none⟩) (show w.heap.size < w1.heap.size by omega)).trans (((bcell hbel).2 (w.heap.size) 0 (by simp; try omega)).trans (by simp [go_sem])))
  have gb0 : W.cell? ⟨w.heap.size + 1, 0, none⟩ = some (.string ⟨#[]⟩) := by
    rw [hW]; exact (cell_alloc_old (by have := hbel2.size; simp at this; omega)).trans ((hB2.cell (p := ⟨w.heap.size + 1, 0, none⟩) (show w.heap.size + 1 < w1.heap.size by omega)).trans (((bcell hbel).1 (w.heap.size + 1) 0 (by simp; try omega)).trans (by simp [go_sem])))
  have fgb0 : W.frozen? ⟨w.heap.size + 1, 0, none⟩ = false := by
    rw [hW]; exact (frozen_alloc_old (by have := hbel2.size; simp at this; omega)).trans ((hB2.frozen (p := ⟨w.heap.size + 1, 0, none⟩) (show w.heap.size + 1 < w1.heap.size by omega)).trans (((bcell hbel).2 (w.heap.size + 1) 0 (by simp; try omega)).trans (by simp [go_sem])))
  have gc0 : W.cell? ⟨w1.heap.size, 0, none⟩ = some (.string ⟨#[115, 118]⟩) := by
    rw [hW]; exact (cell_alloc_old (by have := hbel2.size; simp at this; omega)).trans ((hbel2.cell (p := ⟨w1.heap.size, 0, none⟩) (by simp)).trans (by simp [go_sem]))
  have gd0 : W.cell? ⟨w2.heap.size, 0, none⟩ = some (.string ⟨#[115, 118]⟩) := by rw [hW]; simp [go_sem]
  have ga1 : W.cell? ⟨w.heap.size, 1, none⟩ = some (.string ⟨#[]⟩) := by
    rw [hW]; exact (cell_alloc_old (by have := hbel2.size; simp at this; omega)).trans ((hB2.cell (p := ⟨w.heap.size, 1, none⟩) (show w.heap.size < w1.heap.size by omega)).trans (((bcell hbel).1 (w.heap.size) 1 (by simp; try omega)).trans (by simp [go_sem])))
  have fga1 : W.frozen? ⟨w.heap.size, 1, none⟩ = false := by
    rw [hW]; exact (frozen_alloc_old (by have := hbel2.size; simp at this; omega)).trans ((hB2.frozen (p := ⟨w.heap.size, 1, none⟩) (show w.heap.size < w1.heap.size by omega)).trans (((bcell hbel).2 (w.heap.size) 1 (by simp; try omega)).trans (by simp [go_sem])))
  have gb1 : W.cell? ⟨w.heap.size + 1, 1, none⟩ = some (.string ⟨#[]⟩) := by
    rw [hW]; exact (cell_alloc_old (by have := hbel2.size; simp at this; omega)).trans ((hB2.cell (p := ⟨w.heap.size + 1, 1, none⟩) (show w.heap.size + 1 < w1.heap.size by omega)).trans (((bcell hbel).1 (w.heap.size + 1) 1 (by simp; try omega)).trans (by simp [go_sem])))
  have fgb1 : W.frozen? ⟨w.heap.size + 1, 1, none⟩ = false := by
    rw [hW]; exact (frozen_alloc_old (by have := hbel2.size; simp at this; omega)).trans ((hB2.frozen (p := ⟨w.heap.size + 1, 1, none⟩) (show w.heap.size + 1 < w1.heap.size by omega)).trans (((bcell hbel).2 (w.heap.size + 1) 1 (by simp; try omega)).trans (by simp [go_sem])))
  have gc1 : W.cell? ⟨w1.heap.size, 1, none⟩ = some (.string ⟨#[44]⟩) := by
    rw [hW]; exact (cell_alloc_old (by have := hbel2.size; simp at this; omega)).trans ((hbel2.cell (p := ⟨w1.heap.size, 1, none⟩) (by simp)).trans (by simp [go_sem]))
  have gd1 : W.cell? ⟨w2.heap.size, 1, none⟩ = some (.string ⟨#[44]⟩) := by rw [hW]; simp [go_sem]
  have ga2 : W.cell? ⟨w.heap.size, 2, none⟩ = some (.string ⟨#[]⟩) := by
    rw [hW]; exact (cell_alloc_old (by have := hbel2.size; simp at this; omega)).trans ((hB2.cell (p := ⟨w.heap.size, 2, none⟩) (show w.heap.size < w1.heap.size by omega)).trans (((bcell hbel).1 (w.heap.size) 2 (by simp; try omega)).trans (by simp [go_sem])))
  have fga2 : W.frozen? ⟨w.heap.size, 2, none⟩ = false := by
    rw [hW]; exact (frozen_alloc_old (by have := hbel2.size; simp at this; omega)).trans ((hB2.frozen (p := ⟨w.heap.size, 2, none⟩) (show w.heap.size < w1.heap.size by omega)).trans (((bcell hbel).2 (w.heap.size) 2 (by simp; try omega)).trans (by simp [go_sem])))
  have gb2 : W.cell? ⟨w.heap.size + 1, 2, none⟩ = some (.string ⟨#[]⟩) := by
    rw [hW]; exact (cell_alloc_old (by have := hbel2.size; simp at this; omega)).trans ((hB2.cell (p := ⟨w.heap.size + 1, 2, none⟩) (show w.heap.size + 1 < w1.heap.size by omega)).trans (((bcell hbel).1 (w.heap.size + 1) 2 (by simp; try omega)).trans (by simp [go_sem])))
  have fgb2 : W.frozen? ⟨w.heap.size + 1, 2, none⟩ = false := by
    rw [hW]; exact (frozen_alloc_old (by have := hbel2.size; simp at this; omega)).trans ((hB2.frozen (p := ⟨w.heap.size + 1, 2, none⟩) (show w.heap.size + 1 < w1.heap.size by omega)).trans (((bcell hbel).2 (w.heap.size + 1) 2 (by simp; try omega)).trans (by simp [go_sem])))
  have gc2 : W.cell? ⟨w1.heap.size, 2, none⟩ = some (.string ⟨#[194, 160]⟩) := by
    rw [hW]; exact (cell_alloc_old (by have := hbel2.size; simp at this; omega)).trans ((hbel2.cell (p := ⟨w1.heap.size, 2, none⟩) (by simp)).trans (by simp [go_sem]))
  have gd2 : W.cell? ⟨w2.heap.size, 2, none⟩ = some (.string ⟨#[194, 160]⟩) := by rw [hW]; simp [go_sem]
  have ga3 : W.cell? ⟨w.heap.size, 3, none⟩ = some (.string ⟨#[]⟩) := by
    rw [hW]; exact (cell_alloc_old (by have := hbel2.size; simp at this; omega)).trans ((hB2.cell (p := ⟨w.heap.size, 3, none⟩) (show w.heap.size < w1.heap.size by omega)).trans (((bcell hbel).1 (w.heap.size) 3 (by simp; try omega)).trans (by simp [go_sem])))
  have fga3 : W.frozen? ⟨w.heap.size, 3, none⟩ = false := by
    rw [hW]; exact (frozen_alloc_old (by have := hbel2.size; simp at this; omega)).trans ((hB2.frozen (p := ⟨w.heap.size, 3, none⟩) (show w.heap.size < w1.heap.size by omega)).trans (((bcell hbel).2 (w.heap.size) 3 (by simp; try omega)).trans (by simp [go_sem])))
  have gb3 : W.cell? ⟨w.heap.size + 1, 3, none⟩ = some (.string ⟨#[]⟩) := by
    rw [hW]; exact (cell_alloc_old (by have := hbel2.size; simp at this; omega)).trans ((hB2.cell (p := ⟨w.heap.size + 1, 3, none⟩) (show w.heap.size + 1 < w1.heap.size by omega)).trans (((bcell hbel).1 (w.heap.size + 1) 3 (by simp; try omega)).trans (by simp [go_sem])))
  have fgb3 : W.frozen? ⟨w.heap.size + 1, 3, none⟩ = false := by
    rw [hW]; exact (frozen_alloc_old (by have := hbel2.size; simp at this; omega)).trans ((hB2.frozen (p := ⟨w.heap.size + 1, 3, none⟩) (show w.heap.size + 1 < w1.heap.size by omega)).trans (((bcell hbel).2 (w.heap.size + 1) 3 (by simp; try omega)).trans (by simp [go_sem])))
  have gc3 : W.cell? ⟨w1.heap.size, 3, none⟩ = some (.string ⟨#[59]⟩) := by
    rw [hW]; exact (cell_alloc_old (by have := hbel2.size; simp at this; omega)).trans ((hbel2.cell (p := ⟨w1.heap.size, 3, none⟩) (by simp)).trans (by simp [go_sem]))
  have gd3 : W.cell? ⟨w2.heap.size, 3, none⟩ = some (.string ⟨#[59]⟩) := by rw [hW]; simp [go_sem]
  have ga4 : W.cell? ⟨w.heap.size, 4, none⟩ = some (.string ⟨#[]⟩) := by
    rw [hW]; exact (cell_alloc_old (by have := hbel2.size; simp at this; omega)).trans ((hB2.cell (p := ⟨w.heap.size, 4, none⟩) (show w.heap.size < w1.heap.size by omega)).trans (((bcell hbel).1 (w.heap.size) 4 (by simp; try omega)).trans (by simp [go_sem])))
  have fga4 : W.frozen? ⟨w.heap.size, 4, none⟩ = false := by
    rw [hW]; exact (frozen_alloc_old (by have := hbel2.size; simp at this; omega)).trans ((hB2.frozen (p := ⟨w.heap.size, 4, none⟩) (show w.heap.size < w1.heap.size by omega)).trans (((bcell hbel).2 (w.heap.size) 4 (by simp; try omega)).trans (by simp [go_sem])))
  have gb4 : W.cell? ⟨w.heap.size + 1, 4, none⟩ = some (.string ⟨#[]⟩) := by
    rw [hW]; exact (cell_alloc_old (by have := hbel2.size; simp at this; omega)).trans ((hB2.cell (p := ⟨w.heap.size + 1, 4, none⟩) (show w.heap.size + 1 < w1.heap.size by omega)).trans (((bcell hbel).1 (w.heap.size + 1) 4 (by simp; try omega)).trans (by simp [go_sem])))
  have fgb4 : W.frozen? ⟨w.heap.size + 1, 4, none⟩ = false := by
    rw [hW]; exact (frozen_alloc_old (by have := hbel2.size; simp at this; omega)).trans ((hB2.frozen (p := ⟨w.heap.size + 1, 4, none⟩) (show w.heap.size + 1 < w1.heap.size by omega)).trans (((bcell hbel).2 (w.heap.size + 1) 4 (by simp; try omega)).trans (by simp [go_sem])))
  have gc4 : W.cell? ⟨w1.heap.size, 4, none⟩ = some (.string ⟨#[226, 136, 146]⟩) := by
    rw [hW]; exact (cell_alloc_old (by have := hbel2.size; simp at this; omega)).trans ((hbel2.cell (p := ⟨w1.heap.size, 4, none⟩) (by simp)).trans (by simp [go_sem]))
  have gd4 : W.cell? ⟨w2.heap.size, 4, none⟩ = some (.string ⟨#[226, 136, 146]⟩) := by rw [hW]; simp [go_sem]
  have ga5 : W.cell? ⟨w.heap.size, 5, none⟩ = some (.string ⟨#[]⟩) := by
    rw [hW]; exact (cell_alloc_old (by have := hbel2.size; simp at this; omega)).trans ((hB2.cell (p := ⟨w.heap.size, 5, none⟩) (show w.heap.size < w1.heap.size by omega)).trans (((bcell hbel).1 (w.heap.size) 5 (by simp; try omega)).trans (by simp [go_sem])))
  have fga5 : W.frozen? ⟨w.heap.size, 5, none⟩ = false := by
    rw [hW]; exact (frozen_alloc_old (by have := hbel2.size; simp at this; omega)).trans ((hB2.frozen (p := ⟨w.heap.size, 5, none⟩) (show w.heap.size < w1.heap.size by omega)).trans (((bcell hbel).2 (w.heap.size) 5 (by simp; try omega)).trans (by simp [go_sem])))
  have gb5 : W.cell? ⟨w.heap.size + 1, 5, none⟩ = some (.string ⟨#[]⟩) := by
    rw [hW]; exact (cell_alloc_old (by have := hbel2.size; simp at this; omega)).trans ((hB2.cell (p := ⟨w.heap.size + 1, 5, none⟩) (show w.heap.size + 1 < w1.heap.size by omega)).trans (((bcell hbel).1 (w.heap.size + 1) 5 (by simp; try omega)).trans (by simp [go_sem])))
  have fgb5 : W.frozen? ⟨w.heap.size + 1, 5, none⟩ = false := by
    rw [hW]; exact (frozen_alloc_old (by have := hbel2.size; simp at this; omega)).trans ((hB2.frozen (p := ⟨w.heap.size + 1, 5, none⟩) (show w.heap.size + 1 < w1.heap.size by omega)).trans (((bcell hbel).2 (w.heap.size + 1) 5 (by simp; try omega)).trans (by simp [go_sem])))
  have gc5 : W.cell? ⟨w1.heap.size, 5, none⟩ = some (.string ⟨#[37]⟩) := by
    rw [hW]; exact (cell_alloc_old (by have := hbel2.size; simp at this; omega)).trans ((hbel2.cell (p := ⟨w1.heap.size, 5, none⟩) (by simp)).trans (by simp [go_sem]))
  have gd5 : W.cell? ⟨w2.heap.size, 5, none⟩ = some (.string ⟨#[37]⟩) := by rw [hW]; simp [go_sem]
  have ga6 : W.cell? ⟨w.heap.size, 6, none⟩ = some (.string ⟨#[]⟩) := by
    rw [hW]; exact (cell_alloc_old (by have := hbel2.size; simp at this; omega)).trans ((hB2.cell (p := ⟨w.heap.size, 6, none⟩) (show w.heap.size < w1.heap.size by omega)).trans (((bcell hbel).1 (w.heap.size) 6 (by simp; try omega)).trans (by simp [go_sem])))
  have fga6 : W.frozen? ⟨w.heap.size, 6, none⟩ = false := by
    rw [hW]; exact (frozen_alloc_old (by have := hbel2.size; simp at this; omega)).trans ((hB2.frozen (p := ⟨w.heap.size, 6, none⟩) (show w.heap.size < w1.heap.size by omega)).trans (((bcell hbel).2 (w.heap.size) 6 (by simp; try omega)).trans (by simp [go_sem])))
  have gb6 : W.cell? ⟨w.heap.size + 1, 6, none⟩ = some (.string ⟨#[]⟩) := by
    rw [hW]; exact (cell_alloc_old (by have := hbel2.size; simp at this; omega)).trans ((hB2.cell (p := ⟨w.heap.size + 1, 6, none⟩) (show w.heap.size + 1 < w1.heap.size by omega)).trans (((bcell hbel).1 (w.heap.size + 1) 6 (by simp; try omega)).trans (by simp [go_sem])))
  have fgb6 : W.frozen? ⟨w.heap.size + 1, 6, none⟩ = false := by
    rw [hW]; exact (frozen_alloc_old (by have := hbel2.size; simp at this; omega)).trans ((hB2.frozen (p := ⟨w.heap.size + 1, 6, none⟩) (show w.heap.size + 1 < w1.heap.size by omega)).trans (((bcell hbel).2 (w.heap.size + 1) 6 (by simp; try omega)).trans (by simp [go_sem])))
  have gc6 : W.cell? ⟨w1.heap.size, 6, none⟩ = some (.string ⟨#[107, 114]⟩) := by
    rw [hW]; exact (cell_alloc_old (by have := hbel2.size; simp at this; omega)).trans ((hbel2.cell (p := ⟨w1.heap.size, 6, none⟩) (by simp)).trans (by simp [go_sem]))
  have gd6 : W.cell? ⟨w2.heap.size, 6, none⟩ = some (.string ⟨#[107, 114]⟩) := by rw [hW]; simp [go_sem]
  have ga7 : W.cell? ⟨w.heap.size, 7, none⟩ = some (.bool false) := by
    rw [hW]; exact (cell_alloc_old (by have := hbel2.size; simp at this; omega)).trans ((hB2.cell (p := ⟨w.heap.size, 7, none⟩) (show w.heap.size < w1.heap.size by omega)).trans (((bcell hbel).1 (w.heap.size) 7 (by simp; try omega)).trans (by simp [go_sem])))
  have fga7 : W.frozen? ⟨w.heap.size, 7, none⟩ = false := by
    rw [hW]; exact (frozen_alloc_old (by have := hbel2.size; simp at this; omega)).trans ((hB2.frozen (p := ⟨w.heap.size, 7, none⟩) (show w.heap.size < w1.heap.size by omega)).trans (((bcell hbel).2 (w.heap.size) 7 (by simp; try omega)).trans (by simp [go_sem])))
  have gb7 : W.cell? ⟨w.heap.size + 1, 7, none⟩ = some (.bool false) := by
    rw [hW]; exact (cell_alloc_old (by have := hbel2.size; simp at this; omega)).trans ((hB2.cell (p := ⟨w.heap.size + 1, 7, none⟩) (show w.heap.size + 1 < w1.heap.size by omega)).trans (((bcell hbel).1 (w.heap.size + 1) 7 (by simp; try omega)).trans (by simp [go_sem])))
  have fgb7 : W.frozen? ⟨w.heap.size + 1, 7, none⟩ = false := by
    rw [hW]; exact (frozen_alloc_old (by have := hbel2.size; simp at this; omega)).trans ((hB2.frozen (p := ⟨w.heap.size + 1, 7, none⟩) (show w.heap.size + 1 < w1.heap.size by omega)).trans (((bcell hbel).2 (w.heap.size + 1) 7 (by simp; try omega)).trans (by simp [go_sem])))
  have gc7 : W.cell? ⟨w1.heap.size, 7, none⟩ = some (.bool false) := by
    rw [hW]; exact (cell_alloc_old (by have := hbel2.size; simp at this; omega)).trans ((hbel2.cell (p := ⟨w1.heap.size, 7, none⟩) (by simp)).trans (by simp [go_sem]))
  have gd7 : W.cell? ⟨w2.heap.size, 7, none⟩ = some (.bool false) := by rw [hW]; simp [go_sem]
  have ga8 : W.cell? ⟨w.heap.size, 8, none⟩ = some (.bool false) := by
    rw [hW]; exact (cell_alloc_old (by have := hbel2.size; simp at this; omega)).trans ((hB2.cell (p := ⟨w.heap.size, 8, none⟩) (show w.heap.size < w1.heap.size by omega)).trans (((bcell hbel).1 (w.heap.size) 8 (by simp; try omega)).trans (by simp [go_sem])))
  have fga8 : W.frozen? ⟨w.heap.size, 8, none⟩ = false := by
    rw [hW]; exact (frozen_alloc_old (by have := hbel2.size; simp at this; omega)).trans ((hB2.frozen (p := ⟨w.heap.size, 8, none⟩) (show w.heap.size < w1.heap.size by omega)).trans (((bcell hbel).2 (w.heap.size) 8 (by simp; try omega)).trans (by simp [go_sem])))
  have gb8 : W.cell? ⟨w.heap.size + 1, 8, none⟩ = some (.bool false) := by
    rw [hW]; exact (cell_alloc_old (by have := hbel2.size; simp at this; omega)).trans ((hB2.cell (p := ⟨w.heap.size + 1, 8, none⟩) (show w.heap.size + 1 < w1.heap.size by omega)).trans (((bcell hbel).1 (w.heap.size + 1) 8 (by simp; try omega)).trans (by simp [go_sem])))
  have fgb8 : W.frozen? ⟨w.heap.size + 1, 8, none⟩ = false := by
    rw [hW]; exact (frozen_alloc_old (by have := hbel2.size; simp at this; omega)).trans ((hB2.frozen (p := ⟨w.heap.size + 1, 8, none⟩) (show w.heap.size + 1 < w1.heap.size by omega)).trans (((bcell hbel).2 (w.heap.size + 1) 8 (by simp; try omega)).trans (by simp [go_sem])))
  have gc8 : W.cell? ⟨w1.heap.size, 8, none⟩ = some (.bool true) := by
    rw [hW]; exact (cell_alloc_old (by have := hbel2.size; simp at this; omega)).trans ((hbel2.cell (p := ⟨w1.heap.size, 8, none⟩) (by simp)).trans (by simp [go_sem]))
  have gd8 : W.cell? ⟨w2.heap.size, 8, none⟩ = some (.bool true) := by rw [hW]; simp [go_sem]
  have ga9 : W.cell? ⟨w.heap.size, 9, none⟩ = some (.slice none 0 0) := by
    rw [hW]; exact (cell_alloc_old (by have := hbel2.size; simp at this; omega)).trans ((hB2.cell (p := ⟨w.heap.size, 9, none⟩) (show w.heap.size < w1.heap.size by omega)).trans (((bcell hbel).1 (w.heap.size) 9 (by simp; try omega)).trans (by simp [go_sem])))
  have fga9 : W.frozen? ⟨w.heap.size, 9, none⟩ = false := by
    rw [hW]; exact (frozen_alloc_old (by have := hbel2.size; simp at this; omega)).trans ((hB2.frozen (p := ⟨w.heap.size, 9, none⟩) (show w.heap.size < w1.heap.size by omega)).trans (((bcell hbel).2 (w.heap.size) 9 (by simp; try omega)).trans (by simp [go_sem])))
  have gb9 : W.cell? ⟨w.heap.size + 1, 9, none⟩ = some (.int .i64 0) := by
    rw [hW]; exact (cell_alloc_old (by have := hbel2.size; simp at this; omega)).trans ((hB2.cell (p := ⟨w.heap.size + 1, 9, none⟩) (show w.heap.size + 1 < w1.heap.size by omega)).trans (((bcell hbel).1 (w.heap.size + 1) 9 (by simp; try omega)).trans (by simp [go_sem])))
  have fgb9 : W.frozen? ⟨w.heap.size + 1, 9, none⟩ = false := by
    rw [hW]; exact (frozen_alloc_old (by have := hbel2.size; simp at this; omega)).trans ((hB2.frozen (p := ⟨w.heap.size + 1, 9, none⟩) (show w.heap.size + 1 < w1.heap.size by omega)).trans (((bcell hbel).2 (w.heap.size + 1) 9 (by simp; try omega)).trans (by simp [go_sem])))
  have gc9 : W.cell? ⟨w1.heap.size, 9, none⟩ = some (.int .i64 3) := by
    rw [hW]; exact (cell_alloc_old (by have := hbel2.size; simp at this; omega)).trans ((hbel2.cell (p := ⟨w1.heap.size, 9, none⟩) (by simp)).trans (by simp [go_sem]))
  have gd9 : W.cell? ⟨w2.heap.size, 9, none⟩ = some (.slice (some ⟨b2, 0, none⟩) 1 1) := by rw [hW]; simp [go_sem]
  rw [← hW]
  have hsz := hbel2.size
  simp only [World.size_alloc] at hsz
  have hWc : ∀ k, W.cell? ⟨b2, k, none⟩ = w2.cell? ⟨b2, k, none⟩ := fun k => by rw [hW]; exact cell_alloc_old hs2.1
  have HWC := Lib.hid hWc
  have hb2 : b2 < w2.heap.size := hs2.1
  have HS2 := Lib.hid hs2; have HBW := Lib.hid hBW
  simp only [World.size_alloc] at hlow2
  clear hWc hW hs2 hBW hB2 hbel2 hbel hB_w1
  go_region
  go_wp2
  obtain ⟨X, hX⟩ : ∃ X, X = ((W.setCells w.heap.size 0 [.string ⟨#[115, 118]⟩, .string ⟨#[44]⟩, .string ⟨#[194, 160]⟩, .string ⟨#[59]⟩, .string ⟨#[226, 136, 146]⟩, .string ⟨#[37]⟩, .string ⟨#[107, 114]⟩, .bool false, .bool true, .slice (some ⟨b2, 0, none⟩) 1 1]).setCells (w.heap.size + 1) 0 [.string ⟨#[115, 118]⟩, .string ⟨#[44]⟩, .string ⟨#[194, 160]⟩, .string ⟨#[59]⟩, .string ⟨#[226, 136, 146]⟩, .string ⟨#[37]⟩, .string ⟨#[107, 114]⟩, .bool false, .bool true, .int .i64 3]).drew := ⟨_, rfl⟩
  have hcP := World.cell?_setCells_in w.heap.size [.string ⟨#[115, 118]⟩, .string ⟨#[44]⟩, .string ⟨#[194, 160]⟩, .string ⟨#[59]⟩, .string ⟨#[226, 136, 146]⟩, .string ⟨#[37]⟩, .string ⟨#[107, 114]⟩, .bool false, .bool true, .slice (some ⟨b2, 0, none⟩) 1 1] 0 W (by intro i hi; match i, hi with | 0, _ => exact Option.isSome_of_eq_some ga0 | 1, _ => exact Option.isSome_of_eq_some ga1 | 2, _ => exact Option.isSome_of_eq_some ga2 | 3, _ => exact Option.isSome_of_eq_some ga3 | 4, _ => exact Option.isSome_of_eq_some ga4 | 5, _ => exact Option.isSome_of_eq_some ga5 | 6, _ => exact Option.isSome_of_eq_some ga6 | 7, _ => exact Option.isSome_of_eq_some ga7 | 8, _ => exact Option.isSome_of_eq_some ga8 | 9, _ => exact Option.isSome_of_eq_some ga9 | n + 10, h => exact absurd h (by simp))
  have hcR := World.cell?_setCells_in (w.heap.size + 1) [.string ⟨#[115, 118]⟩, .string ⟨#[44]⟩, .string ⟨#[194, 160]⟩, .string ⟨#[59]⟩, .string ⟨#[226, 136, 146]⟩, .string ⟨#[37]⟩, .string ⟨#[107, 114]⟩, .bool false, .bool true, .int .i64 3] 0 (W.setCells w.heap.size 0 [.string ⟨#[115, 118]⟩, .string ⟨#[44]⟩, .string ⟨#[194, 160]⟩, .string ⟨#[59]⟩, .string ⟨#[226, 136, 146]⟩, .string ⟨#[37]⟩, .string ⟨#[107, 114]⟩, .bool false, .bool true, .slice (some ⟨b2, 0, none⟩) 1 1]) (by
    intro i hi
    rw [World.cell?_setCells_out _ _ _ _ _ (fun e => absurd e (by simp))]
    match i, hi with | 0, _ => exact Option.isSome_of_eq_some gb0 | 1, _ => exact Option.isSome_of_eq_some gb1 | 2, _ => exact Option.isSome_of_eq_some gb2 | 3, _ => exact Option.isSome_of_eq_some gb3 | 4, _ => exact Option.isSome_of_eq_some gb4 | 5, _ => exact Option.isSome_of_eq_some gb5 | 6, _ => exact Option.isSome_of_eq_some gb6 | 7, _ => exact Option.isSome_of_eq_some gb7 | 8, _ => exact Option.isSome_of_eq_some gb8 | 9, _ => exact Option.isSome_of_eq_some gb9 | n + 10, h => exact absurd h (by simp))
  have hother : ∀ k, X.cell? ⟨b2, k, none⟩ = W.cell? ⟨b2, k, none⟩ := fun k => by
    rw [hX, cell_drew1, World.cell?_setCells_out _ _ _ _ _ (fun e => absurd e (by simp; omega)), World.cell?_setCells_out _ _ _ _ _ (fun e => absurd e (by simp; omega))]
  have hXs : X.heap.size = W.heap.size := by rw [hX, size_drew', size_setCells, size_setCells]
  have hXB : Below w.heap.size w X := by rw [hX]; exact (below_setCells (Nat.le_succ _) _ _ (below_setCells (Nat.le_refl _) _ _ HBW.out)).drew
  have ea0 : X.cell? ⟨w.heap.size, 0, none⟩ = some (.string ⟨#[115, 118]⟩) := by
    rw [hX, cell_drew1, World.cell?_setCells_out _ _ _ _ _ (fun e => absurd e (by simp))]; exact hcP 0 (by simp)
  have eb0 : X.cell? ⟨w.heap.size + 1, 0, none⟩ = some (.string ⟨#[115, 118]⟩) := by
    rw [hX, cell_drew1]; exact hcR 0 (by simp)
  have ea1 : X.cell? ⟨w.heap.size, 1, none⟩ = some (.string ⟨#[44]⟩) := by
    rw [hX, cell_drew1, World.cell?_setCells_out _ _ _ _ _ (fun e => absurd e (by simp))]; exact hcP 1 (by simp)
  have eb1 : X.cell? ⟨w.heap.size + 1, 1, none⟩ = some (.string ⟨#[44]⟩) := by
    rw [hX, cell_drew1]; exact hcR 1 (by simp)
  have ea2 : X.cell? ⟨w.heap.size, 2, none⟩ = some (.string ⟨#[194, 160]⟩) := by
    rw [hX, cell_drew1, World.cell?_setCells_out _ _ _ _ _ (fun e => absurd e (by simp))]; exact hcP 2 (by simp)
  have eb2 : X.cell? ⟨w.heap.size + 1, 2, none⟩ = some (.string ⟨#[194, 160]⟩) := by
    rw [hX, cell_drew1]; exact hcR 2 (by simp)
  have ea3 : X.cell? ⟨w.heap.size, 3, none⟩ = some (.string ⟨#[59]⟩) := by
    rw [hX, cell_drew1, World.cell?_setCells_out _ _ _ _ _ (fun e => absurd e (by simp))]; exact hcP 3 (by simp)
  have eb3 : X.cell? ⟨w.heap.size + 1, 3, none⟩ = some (.string ⟨#[59]⟩) := by
    rw [hX, cell_drew1]; exact hcR 3 (by simp)
  have ea4 : X.cell? ⟨w.heap.size, 4, none⟩ = some (.string ⟨#[226, 136, 146]⟩) := by
    rw [hX, cell_drew1, World.cell?_setCells_out _ _ _ _ _ (fun e => absurd e (by simp))]; exact hcP 4 (by simp)
  have eb4 : X.cell? ⟨w.heap.size + 1, 4, none⟩ = some (.string ⟨#[226, 136, 146]⟩) := by
    rw [hX, cell_drew1]; exact hcR 4 (by simp)
  have ea5 : X.cell? ⟨w.heap.size, 5, none⟩ = some (.string ⟨#[37]⟩) := by
    rw [hX, cell_drew1, World.cell?_setCells_out _ _ _ _ _ (fun e => absurd e (by simp))]; exact hcP 5 (by simp)
  have eb5 : X.cell? ⟨w.heap.size + 1, 5, none⟩ = some (.string ⟨#[37]⟩) := by
    rw [hX, cell_drew1]; exact hcR 5 (by simp)
  have ea6 : X.cell? ⟨w.heap.size, 6, none⟩ = some (.string ⟨#[107, 114]⟩) := by
    rw [hX, cell_drew1, World.cell?_setCells_out _ _ _ _ _ (fun e => absurd e (by simp))]; exact hcP 6 (by simp)
  have eb6 : X.cell? ⟨w.heap.size + 1, 6, none⟩ = some (.string ⟨#[107, 114]⟩) := by
    rw [hX, cell_drew1]; exact hcR 6 (by simp)
  have ea7 : X.cell? ⟨w.heap.size, 7, none⟩ = some (.bool false) := by
    rw [hX, cell_drew1, World.cell?_setCells_out _ _ _ _ _ (fun e => absurd e (by simp))]; exact hcP 7 (by simp)
  have eb7 : X.cell? ⟨w.heap.size + 1, 7, none⟩ = some (.bool false) := by
    rw [hX, cell_drew1]; exact hcR 7 (by simp)
  have ea8 : X.cell? ⟨w.heap.size, 8, none⟩ = some (.bool true) := by
    rw [hX, cell_drew1, World.cell?_setCells_out _ _ _ _ _ (fun e => absurd e (by simp))]; exact hcP 8 (by simp)
  have eb8 : X.cell? ⟨w.heap.size + 1, 8, none⟩ = some (.bool true) := by
    rw [hX, cell_drew1]; exact hcR 8 (by simp)
  have ea9 : X.cell? ⟨w.heap.size, 9, none⟩ = some (.slice (some ⟨b2, 0, none⟩) 1 1) := by
    rw [hX, cell_drew1, World.cell?_setCells_out _ _ _ _ _ (fun e => absurd e (by simp))]; exact hcP 9 (by simp)
  have eb9 : X.cell? ⟨w.heap.size + 1, 9, none⟩ = some (.int .i64 3) := by
    rw [hX, cell_drew1]; exact hcR 9 (by simp)
  change bodyPost _ _ _ _ _ ((W.setCells w.heap.size 0 [.string ⟨#[115, 118]⟩, .string ⟨#[44]⟩, .string ⟨#[194, 160]⟩, .string ⟨#[59]⟩, .string ⟨#[226, 136, 146]⟩, .string ⟨#[37]⟩, .string ⟨#[107, 114]⟩, .bool false, .bool true, .slice (some ⟨b2, 0, none⟩) 1 1]).setCells (w.heap.size + 1) 0 [.string ⟨#[115, 118]⟩, .string ⟨#[44]⟩, .string ⟨#[194, 160]⟩, .string ⟨#[59]⟩, .string ⟨#[226, 136, 146]⟩, .string ⟨#[37]⟩, .string ⟨#[107, 114]⟩, .bool false, .bool true, .int .i64 3]).drew
  rw [← hX]
  have hszs : Szs X b2 Lc.sv := by
    obtain ⟨h1, h2, h3⟩ := HS2.out
    have hk : ∀ k, X.cell? ⟨b2, k, none⟩ = w2.cell? ⟨b2, k, none⟩ := fun k => (hother k).trans (HWC.out k)
    exact ⟨by omega, (hk 0).trans h2, fun e => (hk 1).trans (h3 e)⟩
  clear hX hcP hcR hother ga0 ga1 ga2 ga3 ga4 ga5 ga6 ga7 ga8 ga9 gb0 gb1 gb2 gb3 gb4 gb5 gb6 gb7 gb8 gb9 gc0 gc1 gc2 gc3 gc4 gc5 gc6 gc7 gc8 gc9 gd0 gd1 gd2 gd3 gd4 gd5 gd6 gd7 gd8 gd9 fga0 fga1 fga2 fga3 fga4 fga5 fga6 fga7 fga8 fga9 fgb0 fgb1 fgb2 fgb3 fgb4 fgb5 fgb6 fgb7 fgb8 fgb9
  (refine bodyPost_ret (v := .tuple #[LV b2 Lc.sv, RV Lc.sv]) (by simp [results, Tryd.results13, go_sem, RV, LV, tx, Lc.sv, Lc.Loc.second, ea0, eb0, ea1, eb1, ea2, eb2, ea3, eb3, ea4, eb4, ea5, eb5, ea6, eb6, ea7, eb7, ea8, eb8, ea9, eb9]; done) rfl ⟨b2, rfl, by omega, hszs, hXB⟩)
end Go.Proofs.YtcbepojookbceaaDoor
