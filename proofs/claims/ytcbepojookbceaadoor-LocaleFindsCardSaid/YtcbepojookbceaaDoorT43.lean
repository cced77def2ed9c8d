import Derived.Test.YtcbepojookbceaaDoorT42
import Derived.Laws.IdiomCopy
namespace Go.Proofs.YtcbepojookbceaaDoor
set_option linter.all false
open Go.RowKit

/-- What the reference's Find answers for no name of the six. -/
def RZ : Value := .agg #[.string ⟨#[]⟩, .string ⟨#[]⟩, .string ⟨#[]⟩, .string ⟨#[]⟩, .string ⟨#[]⟩, .string ⟨#[]⟩, .string ⟨#[]⟩, .bool false, .bool false, .int .i64 0]

set_option maxRecDepth 100000 in
set_option maxHeartbeats 2000000 in
theorem r11_find_ch (w : World) : Calls Tryd.prog 29 #[.string ⟨#[99, 104]⟩] w (RetB (.tuple #[RV Lc.ch, .bool true]) w) := by
  go_enter Tryd.func29, Tryd.ntmps29
  go_wp2_with (go_at_call 27; (with_reducible refine (r11_all_any _).mono ?_); rintro e w1 ⟨b, rfl, hlow, ⟨hb1, ⟨c0_0, c0_1, c0_2, c0_3, c0_4, c0_5, c0_6, c0_7, c0_8, c0_9⟩, ⟨c1_0, c1_1, c1_2, c1_3, c1_4, c1_5, c1_6, c1_7, c1_8, c1_9⟩, ⟨c2_0, c2_1, c2_2, c2_3, c2_4, c2_5, c2_6, c2_7, c2_8, c2_9⟩, ⟨c3_0, c3_1, c3_2, c3_3, c3_4, c3_5, c3_6, c3_7, c3_8, c3_9⟩, ⟨c4_0, c4_1, c4_2, c4_3, c4_4, c4_5, c4_6, c4_7, c4_8, c4_9⟩, ⟨c5_0, c5_1, c5_2, c5_3, c5_4, c5_5, c5_6, c5_7, c5_8, c5_9⟩⟩, hbel⟩)
  have hB_w1 : Below w.heap.size w w1 := Below.trans (by (repeat (first | exact Below.refl _ _ | assumption | refine Below.setCell ?_ (by first | omega | (simp <;> omega)) _ | refine Below.alloc ?_ (by first | omega | (simp <;> omega)) _ | refine Below.drew ?_ | refine below_drewN' ?_ _))) (hbel.mono (by simp))
  have hcz := hbel.size
  simp only [World.size_alloc] at hcz hlow
  have z0 : w1.cell? ⟨w.heap.size, 0, none⟩ = some (.string ⟨#[]⟩) := ((bcell hbel).1 w.heap.size 0 (by simp)).trans (by simp [go_sem])
  have y0 : w1.frozen? ⟨w.heap.size, 0, none⟩ = false := ((bcell hbel).2 w.heap.size 0 (by simp)).trans (by simp [go_sem])
  have z1 : w1.cell? ⟨w.heap.size, 1, none⟩ = some (.string ⟨#[]⟩) := ((bcell hbel).1 w.heap.size 1 (by simp)).trans (by simp [go_sem])
  have y1 : w1.frozen? ⟨w.heap.size, 1, none⟩ = false := ((bcell hbel).2 w.heap.size 1 (by simp)).trans (by simp [go_sem])
  have z2 : w1.cell? ⟨w.heap.size, 2, none⟩ = some (.string ⟨#[]⟩) := ((bcell hbel).1 w.heap.size 2 (by simp)).trans (by simp [go_sem])
  have y2 : w1.frozen? ⟨w.heap.size, 2, none⟩ = false := ((bcell hbel).2 w.heap.size 2 (by simp)).trans (by simp [go_sem])
  have z3 : w1.cell? ⟨w.heap.size, 3, none⟩ = some (.string ⟨#[]⟩) := ((bcell hbel).1 w.heap.size 3 (by simp)).trans (by simp [go_sem])
  have y3 : w1.frozen? ⟨w.heap.size, 3, none⟩ = false := ((bcell hbel).2 w.heap.size 3 (by simp)).trans (by simp [go_sem])
  have z4 : w1.cell? ⟨w.heap.size, 4, none⟩ = some (.string ⟨#[]⟩) := ((bcell hbel).1 w.heap.size 4 (by simp)).trans (by simp [go_sem])
  have y4 : w1.frozen? ⟨w.heap.size, 4, none⟩ = false := ((bcell hbel).2 w.heap.size 4 (by simp)).trans (by simp [go_sem])
  have z5 : w1.cell? ⟨w.heap.size, 5, none⟩ = some (.string ⟨#[]⟩) := ((bcell hbel).1 w.heap.size 5 (by simp)).trans (by simp [go_sem])
  have y5 : w1.frozen? ⟨w.heap.size, 5, none⟩ = false := ((bcell hbel).2 w.heap.size 5 (by simp)).trans (by simp [go_sem])
  have z6 : w1.cell? ⟨w.heap.size, 6, none⟩ = some (.string ⟨#[]⟩) := ((bcell hbel).1 w.heap.size 6 (by simp)).trans (by simp [go_sem])
  have y6 : w1.frozen? ⟨w.heap.size, 6, none⟩ = false := ((bcell hbel).2 w.heap.size 6 (by simp)).trans (by simp [go_sem])
  have z7 : w1.cell? ⟨w.heap.size, 7, none⟩ = some (.bool false) := ((bcell hbel).1 w.heap.size 7 (by simp)).trans (by simp [go_sem])
  have y7 : w1.frozen? ⟨w.heap.size, 7, none⟩ = false := ((bcell hbel).2 w.heap.size 7 (by simp)).trans (by simp [go_sem])
  have z8 : w1.cell? ⟨w.heap.size, 8, none⟩ = some (.bool false) := ((bcell hbel).1 w.heap.size 8 (by simp)).trans (by simp [go_sem])
  have y8 : w1.frozen? ⟨w.heap.size, 8, none⟩ = false := ((bcell hbel).2 w.heap.size 8 (by simp)).trans (by simp [go_sem])
  have z9 : w1.cell? ⟨w.heap.size, 9, none⟩ = some (.int .i64 0) := ((bcell hbel).1 w.heap.size 9 (by simp)).trans (by simp [go_sem])
  have y9 : w1.frozen? ⟨w.heap.size, 9, none⟩ = false := ((bcell hbel).2 w.heap.size 9 (by simp)).trans (by simp [go_sem])
  have hn0 : ¬ b = w.heap.size := by omega
  have hn1 : ¬ w.heap.size = b := by omega
  clear hbel
  clear c1_0 c1_1 c1_2 c1_3 c1_4 c1_5 c1_6 c1_7 c1_8 c1_9 c2_0 c2_1 c2_2 c2_3 c2_4 c2_5 c2_6 c2_7 c2_8 c2_9 c3_0 c3_1 c3_2 c3_3 c3_4 c3_5 c3_6 c3_7 c3_8 c3_9 c4_0 c4_1 c4_2 c4_3 c4_4 c4_5 c4_6 c4_7 c4_8 c4_9 c5_0 c5_1 c5_2 c5_3 c5_4 c5_5 c5_6 c5_7 c5_8 c5_9
  go_loop [5] (fun i => ∃ k : Nat, k ≤ 0 ∧ i = .int .i64 k) (fun i => 6 - (intOf i).toNat)
  case atStart => exact ⟨0, by omega, rfl⟩
  case round =>
    obtain ⟨k, hk, rfl⟩ := hrel
    have hcase : k = 0 := by omega
    clear hk
    rcases hcase with rfl
    · go_wp2_with fail
      obtain ⟨W, hW⟩ : ∃ W, W = w1.setCells w.heap.size 0 [.string ⟨#[99, 104]⟩, .string ⟨#[46]⟩, .string ⟨#[226, 128, 153]⟩, .string ⟨#[59]⟩, .string ⟨#[45]⟩, .string ⟨#[37]⟩, .string ⟨#[67, 72, 70]⟩, .bool true, .bool true, .int .i64 3] := ⟨_, rfl⟩
      have hWB : Below w.heap.size w W := by rw [hW]; exact (((((((((hB_w1.setCell (p := ⟨w.heap.size, 0, none⟩) (Nat.le_refl _) _).setCell (p := ⟨w.heap.size, 1, none⟩) (Nat.le_refl _) _).setCell (p := ⟨w.heap.size, 2, none⟩) (Nat.le_refl _) _).setCell (p := ⟨w.heap.size, 3, none⟩) (Nat.le_refl _) _).setCell (p := ⟨w.heap.size, 4, none⟩) (Nat.le_refl _) _).setCell (p := ⟨w.heap.size, 5, none⟩) (Nat.le_refl _) _).setCell (p := ⟨w.heap.size, 6, none⟩) (Nat.le_refl _) _).setCell (p := ⟨w.heap.size, 7, none⟩) (Nat.le_refl _) _).setCell (p := ⟨w.heap.size, 8, none⟩) (Nat.le_refl _) _).setCell (p := ⟨w.heap.size, 9, none⟩) (Nat.le_refl _) _
      have hin := World.cell?_setCells_in w.heap.size [.string ⟨#[99, 104]⟩, .string ⟨#[46]⟩, .string ⟨#[226, 128, 153]⟩, .string ⟨#[59]⟩, .string ⟨#[45]⟩, .string ⟨#[37]⟩, .string ⟨#[67, 72, 70]⟩, .bool true, .bool true, .int .i64 3] 0 w1 (by intro i hi; match i, hi with | 0, _ => exact Option.isSome_of_eq_some z0 | 1, _ => exact Option.isSome_of_eq_some z1 | 2, _ => exact Option.isSome_of_eq_some z2 | 3, _ => exact Option.isSome_of_eq_some z3 | 4, _ => exact Option.isSome_of_eq_some z4 | 5, _ => exact Option.isSome_of_eq_some z5 | 6, _ => exact Option.isSome_of_eq_some z6 | 7, _ => exact Option.isSome_of_eq_some z7 | 8, _ => exact Option.isSome_of_eq_some z8 | 9, _ => exact Option.isSome_of_eq_some z9 | n + 10, h => exact absurd h (by simp))
      rw [← hW] at hin
      have e0 : W.cell? ⟨w.heap.size, 0, none⟩ = some (.string ⟨#[99, 104]⟩) := hin 0 (by simp)
      have e1 : W.cell? ⟨w.heap.size, 1, none⟩ = some (.string ⟨#[46]⟩) := hin 1 (by simp)
      have e2 : W.cell? ⟨w.heap.size, 2, none⟩ = some (.string ⟨#[226, 128, 153]⟩) := hin 2 (by simp)
      have e3 : W.cell? ⟨w.heap.size, 3, none⟩ = some (.string ⟨#[59]⟩) := hin 3 (by simp)
      have e4 : W.cell? ⟨w.heap.size, 4, none⟩ = some (.string ⟨#[45]⟩) := hin 4 (by simp)
      have e5 : W.cell? ⟨w.heap.size, 5, none⟩ = some (.string ⟨#[37]⟩) := hin 5 (by simp)
      have e6 : W.cell? ⟨w.heap.size, 6, none⟩ = some (.string ⟨#[67, 72, 70]⟩) := hin 6 (by simp)
      have e7 : W.cell? ⟨w.heap.size, 7, none⟩ = some (.bool true) := hin 7 (by simp)
      have e8 : W.cell? ⟨w.heap.size, 8, none⟩ = some (.bool true) := hin 8 (by simp)
      have e9 : W.cell? ⟨w.heap.size, 9, none⟩ = some (.int .i64 3) := hin 9 (by simp)
      change bodyPost _ _ _ _ _ (w1.setCells w.heap.size 0 [.string ⟨#[99, 104]⟩, .string ⟨#[46]⟩, .string ⟨#[226, 128, 153]⟩, .string ⟨#[59]⟩, .string ⟨#[45]⟩, .string ⟨#[37]⟩, .string ⟨#[67, 72, 70]⟩, .bool true, .bool true, .int .i64 3])
      rw [← hW]
      clear hW hin
      (refine bodyPost_ret (v := .tuple #[RV Lc.ch, .bool true]) (by simp [results, Tryd.results29, go_sem, RV, RZ, tx, Lc.ch, Lc.Loc.second, e0, e1, e2, e3, e4, e5, e6, e7, e8, e9]; done) rfl (RetB.of rfl hWB))

set_option maxRecDepth 100000 in
set_option maxHeartbeats 2000000 in
theorem r11_find_de (w : World) : Calls Tryd.prog 29 #[.string ⟨#[100, 101]⟩] w (RetB (.tuple #[RV Lc.de, .bool true]) w) := by
  go_enter Tryd.func29, Tryd.ntmps29
  go_wp2_with (go_at_call 27; (with_reducible refine (r11_all_any _).mono ?_); rintro e w1 ⟨b, rfl, hlow, ⟨hb1, ⟨c0_0, c0_1, c0_2, c0_3, c0_4, c0_5, c0_6, c0_7, c0_8, c0_9⟩, ⟨c1_0, c1_1, c1_2, c1_3, c1_4, c1_5, c1_6, c1_7, c1_8, c1_9⟩, ⟨c2_0, c2_1, c2_2, c2_3, c2_4, c2_5, c2_6, c2_7, c2_8, c2_9⟩, ⟨c3_0, c3_1, c3_2, c3_3, c3_4, c3_5, c3_6, c3_7, c3_8, c3_9⟩, ⟨c4_0, c4_1, c4_2, c4_3, c4_4, c4_5, c4_6, c4_7, c4_8, c4_9⟩, ⟨c5_0, c5_1, c5_2, c5_3, c5_4, c5_5, c5_6, c5_7, c5_8, c5_9⟩⟩, hbel⟩)
  have hB_w1 : Below w.heap.size w w1 := Below.trans (by (repeat (first | exact Below.refl _ _ | assumption | refine Below.setCell ?_ (by first | omega | (simp <;> omega)) _ | refine Below.alloc ?_ (by first | omega | (simp <;> omega)) _ | refine Below.drew ?_ | refine below_drewN' ?_ _))) (hbel.mono (by simp))
  have hcz := hbel.size
  simp only [World.size_alloc] at hcz hlow
  have z0 : w1.cell? ⟨w.heap.size, 0, none⟩ = some (.string ⟨#[]⟩) := ((bcell hbel).1 w.heap.size 0 (by simp)).trans (by simp [go_sem])
  have y0 : w1.frozen? ⟨w.heap.size, 0, none⟩ = false := ((bcell hbel).2 w.heap.size 0 (by simp)).trans (by simp [go_sem])
  have z1 : w1.cell? ⟨w.heap.size, 1, none⟩ = some (.string ⟨#[]⟩) := ((bcell hbel).1 w.heap.size 1 (by simp)).trans (by simp [go_sem])
  have y1 : w1.frozen? ⟨w.heap.size, 1, none⟩ = false := ((bcell hbel).2 w.heap.size 1 (by simp)).trans (by simp [go_sem])
  have z2 : w1.cell? ⟨w.heap.size, 2, none⟩ = some (.string ⟨#[]⟩) := ((bcell hbel).1 w.heap.size 2 (by simp)).trans (by simp [go_sem])
  have y2 : w1.frozen? ⟨w.heap.size, 2, none⟩ = false := ((bcell hbel).2 w.heap.size 2 (by simp)).trans (by simp [go_sem])
  have z3 : w1.cell? ⟨w.heap.size, 3, none⟩ = some (.string ⟨#[]⟩) := ((bcell hbel).1 w.heap.size 3 (by simp)).trans (by simp [go_sem])
  have y3 : w1.frozen? ⟨w.heap.size, 3, none⟩ = false := ((bcell hbel).2 w.heap.size 3 (by simp)).trans (by simp [go_sem])
  have z4 : w1.cell? ⟨w.heap.size, 4, none⟩ = some (.string ⟨#[]⟩) := ((bcell hbel).1 w.heap.size 4 (by simp)).trans (by simp [go_sem])
  have y4 : w1.frozen? ⟨w.heap.size, 4, none⟩ = false := ((bcell hbel).2 w.heap.size 4 (by simp)).trans (by simp [go_sem])
  have z5 : w1.cell? ⟨w.heap.size, 5, none⟩ = some (.string ⟨#[]⟩) := ((bcell hbel).1 w.heap.size 5 (by simp)).trans (by simp [go_sem])
  have y5 : w1.frozen? ⟨w.heap.size, 5, none⟩ = false := ((bcell hbel).2 w.heap.size 5 (by simp)).trans (by simp [go_sem])
  have z6 : w1.cell? ⟨w.heap.size, 6, none⟩ = some (.string ⟨#[]⟩) := ((bcell hbel).1 w.heap.size 6 (by simp)).trans (by simp [go_sem])
  have y6 : w1.frozen? ⟨w.heap.size, 6, none⟩ = false := ((bcell hbel).2 w.heap.size 6 (by simp)).trans (by simp [go_sem])
  have z7 : w1.cell? ⟨w.heap.size, 7, none⟩ = some (.bool false) := ((bcell hbel).1 w.heap.size 7 (by simp)).trans (by simp [go_sem])
  have y7 : w1.frozen? ⟨w.heap.size, 7, none⟩ = false := ((bcell hbel).2 w.heap.size 7 (by simp)).trans (by simp [go_sem])
  have z8 : w1.cell? ⟨w.heap.size, 8, none⟩ = some (.bool false) := ((bcell hbel).1 w.heap.size 8 (by simp)).trans (by simp [go_sem])
  have y8 : w1.frozen? ⟨w.heap.size, 8, none⟩ = false := ((bcell hbel).2 w.heap.size 8 (by simp)).trans (by simp [go_sem])
  have z9 : w1.cell? ⟨w.heap.size, 9, none⟩ = some (.int .i64 0) := ((bcell hbel).1 w.heap.size 9 (by simp)).trans (by simp [go_sem])
  have y9 : w1.frozen? ⟨w.heap.size, 9, none⟩ = false := ((bcell hbel).2 w.heap.size 9 (by simp)).trans (by simp [go_sem])
  have hn0 : ¬ b = w.heap.size := by omega
  have hn1 : ¬ w.heap.size = b := by omega
  clear hbel
  clear c0_1 c0_2 c0_3 c0_4 c0_5 c0_6 c0_7 c0_8 c0_9 c2_0 c2_1 c2_2 c2_3 c2_4 c2_5 c2_6 c2_7 c2_8 c2_9 c3_0 c3_1 c3_2 c3_3 c3_4 c3_5 c3_6 c3_7 c3_8 c3_9 c4_0 c4_1 c4_2 c4_3 c4_4 c4_5 c4_6 c4_7 c4_8 c4_9 c5_0 c5_1 c5_2 c5_3 c5_4 c5_5 c5_6 c5_7 c5_8 c5_9
  go_loop [5] (fun i => ∃ k : Nat, k ≤ 1 ∧ i = .int .i64 k) (fun i => 6 - (intOf i).toNat)
  case atStart => exact ⟨0, by omega, rfl⟩
  case round =>
    obtain ⟨k, hk, rfl⟩ := hrel
    have hcase : k = 0 ∨ k = 1 := by omega
    clear hk
    rcases hcase with rfl | rfl
    · go_wp2_with fail
      go_round
      case rel => exact ⟨1, by omega, by rfl⟩
      case measure => simp [intOf]
    · go_wp2_with fail
      obtain ⟨W, hW⟩ : ∃ W, W = w1.setCells w.heap.size 0 [.string ⟨#[100, 101]⟩, .string ⟨#[44]⟩, .string ⟨#[46]⟩, .string ⟨#[59]⟩, .string ⟨#[45]⟩, .string ⟨#[37]⟩, .string ⟨#[226, 130, 172]⟩, .bool false, .bool true, .int .i64 3] := ⟨_, rfl⟩
      have hWB : Below w.heap.size w W := by rw [hW]; exact (((((((((hB_w1.setCell (p := ⟨w.heap.size, 0, none⟩) (Nat.le_refl _) _).setCell (p := ⟨w.heap.size, 1, none⟩) (Nat.le_refl _) _).setCell (p := ⟨w.heap.size, 2, none⟩) (Nat.le_refl _) _).setCell (p := ⟨w.heap.size, 3, none⟩) (Nat.le_refl _) _).setCell (p := ⟨w.heap.size, 4, none⟩) (Nat.le_refl _) _).setCell (p := ⟨w.heap.size, 5, none⟩) (Nat.le_refl _) _).setCell (p := ⟨w.heap.size, 6, none⟩) (Nat.le_refl _) _).setCell (p := ⟨w.heap.size, 7, none⟩) (Nat.le_refl _) _).setCell (p := ⟨w.heap.size, 8, none⟩) (Nat.le_refl _) _).setCell (p := ⟨w.heap.size, 9, none⟩) (Nat.le_refl _) _
      have hin := World.cell?_setCells_in w.heap.size [.string ⟨#[100, 101]⟩, .string ⟨#[44]⟩, .string ⟨#[46]⟩, .string ⟨#[59]⟩, .string ⟨#[45]⟩, .string ⟨#[37]⟩, .string ⟨#[226, 130, 172]⟩, .bool false, .bool true, .int .i64 3] 0 w1 (by intro i hi; match i, hi with | 0, _ => exact Option.isSome_of_eq_some z0 | 1, _ => exact Option.isSome_of_eq_some z1 | 2, _ => exact Option.isSome_of_eq_some z2 | 3, _ => exact Option.isSome_of_eq_some z3 | 4, _ => exact Option.isSome_of_eq_some z4 | 5, _ => exact Option.isSome_of_eq_some z5 | 6, _ => exact Option.isSome_of_eq_some z6 | 7, _ => exact Option.isSome_of_eq_some z7 | 8, _ => exact Option.isSome_of_eq_some z8 | 9, _ => exact Option.isSome_of_eq_some z9 | n + 10, h => exact absurd h (by simp))
      rw [← hW] at hin
      have e0 : W.cell? ⟨w.heap.size, 0, none⟩ = some (.string ⟨#[100, 101]⟩) := hin 0 (by simp)
      have e1 : W.cell? ⟨w.heap.size, 1, none⟩ = some (.string ⟨#[44]⟩) := hin 1 (by simp)
      have e2 : W.cell? ⟨w.heap.size, 2, none⟩ = some (.string ⟨#[46]⟩) := hin 2 (by simp)
      have e3 : W.cell? ⟨w.heap.size, 3, none⟩ = some (.string ⟨#[59]⟩) := hin 3 (by simp)
      have e4 : W.cell? ⟨w.heap.size, 4, none⟩ = some (.string ⟨#[45]⟩) := hin 4 (by simp)
      have e5 : W.cell? ⟨w.heap.size, 5, none⟩ = some (.string ⟨#[37]⟩) := hin 5 (by simp)
      have e6 : W.cell? ⟨w.heap.size, 6, none⟩ = some (.string ⟨#[226, 130, 172]⟩) := hin 6 (by simp)
      have e7 : W.cell? ⟨w.heap.size, 7, none⟩ = some (.bool false) := hin 7 (by simp)
      have e8 : W.cell? ⟨w.heap.size, 8, none⟩ = some (.bool true) := hin 8 (by simp)
      have e9 : W.cell? ⟨w.heap.size, 9, none⟩ = some (.int .i64 3) := hin 9 (by simp)
      change bodyPost _ _ _ _ _ (w1.setCells w.heap.size 0 [.string ⟨#[100, 101]⟩, .string ⟨#[44]⟩, .string ⟨#[46]⟩, .string ⟨#[59]⟩, .string ⟨#[45]⟩, .string ⟨#[37]⟩, .string ⟨#[226, 130, 172]⟩, .bool false, .bool true, .int .i64 3])
      rw [← hW]
      clear hW hin
      (refine bodyPost_ret (v := .tuple #[RV Lc.de, .bool true]) (by simp [results, Tryd.results29, go_sem, RV, RZ, tx, Lc.de, Lc.Loc.second, e0, e1, e2, e3, e4, e5, e6, e7, e8, e9]; done) rfl (RetB.of rfl hWB))

set_option maxRecDepth 100000 in
set_option maxHeartbeats 2000000 in
theorem r11_find_en (w : World) : Calls Tryd.prog 29 #[.string ⟨#[101, 110]⟩] w (RetB (.tuple #[RV Lc.en, .bool true]) w) := by
  go_enter Tryd.func29, Tryd.ntmps29
  go_wp2_with (go_at_call 27; (with_reducible refine (r11_all_any _).mono ?_); rintro e w1 ⟨b, rfl, hlow, ⟨hb1, ⟨c0_0, c0_1, c0_2, c0_3, c0_4, c0_5, c0_6, c0_7, c0_8, c0_9⟩, ⟨c1_0, c1_1, c1_2, c1_3, c1_4, c1_5, c1_6, c1_7, c1_8, c1_9⟩, ⟨c2_0, c2_1, c2_2, c2_3, c2_4, c2_5, c2_6, c2_7, c2_8, c2_9⟩, ⟨c3_0, c3_1, c3_2, c3_3, c3_4, c3_5, c3_6, c3_7, c3_8, c3_9⟩, ⟨c4_0, c4_1, c4_2, c4_3, c4_4, c4_5, c4_6, c4_7, c4_8, c4_9⟩, ⟨c5_0, c5_1, c5_2, c5_3, c5_4, c5_5, c5_6, c5_7, c5_8, c5_9⟩⟩, hbel⟩)
  have hB_w1 : Below w.heap.size w w1 := Below.trans (by (repeat (first | exact Below.refl _ _ | assumption | refine Below.setCell ?_ (by first | omega | (simp <;> omega)) _ | refine Below.alloc ?_ (by first | omega | (simp <;> omega)) _ | refine Below.drew ?_ | refine below_drewN' ?_ _))) (hbel.mono (by simp))
  have hcz := hbel.size
  simp only [World.size_alloc] at hcz hlow
  have z0 : w1.cell? ⟨w.heap.size, 0, none⟩ = some (.string ⟨#[]⟩) := ((bcell hbel).1 w.heap.size 0 (by simp)).trans (by simp [go_sem])
  have y0 : w1.frozen? ⟨w.heap.size, 0, none⟩ = false := ((bcell hbel).2 w.heap.size 0 (by simp)).trans (by simp [go_sem])
  have z1 : w1.cell? ⟨w.heap.size, 1, none⟩ = some (.string ⟨#[]⟩) := ((bcell hbel).1 w.heap.size 1 (by simp)).trans (by simp [go_sem])
  have y1 : w1.frozen? ⟨w.heap.size, 1, none⟩ = false := ((bcell hbel).2 w.heap.size 1 (by simp)).trans (by simp [go_sem])
  have z2 : w1.cell? ⟨w.heap.size, 2, none⟩ = some (.string ⟨#[]⟩) := ((bcell hbel).1 w.heap.size 2 (by simp)).trans (by simp [go_sem])
  have y2 : w1.frozen? ⟨w.heap.size, 2, none⟩ = false := ((bcell hbel).2 w.heap.size 2 (by simp)).trans (by simp [go_sem])
  have z3 : w1.cell? ⟨w.heap.size, 3, none⟩ = some (.string ⟨#[]⟩) := ((bcell hbel).1 w.heap.size 3 (by simp)).trans (by simp [go_sem])
  have y3 : w1.frozen? ⟨w.heap.size, 3, none⟩ = false := ((bcell hbel).2 w.heap.size 3 (by simp)).trans (by simp [go_sem])
  have z4 : w1.cell? ⟨w.heap.size, 4, none⟩ = some (.string ⟨#[]⟩) := ((bcell hbel).1 w.heap.size 4 (by simp)).trans (by simp [go_sem])
  have y4 : w1.frozen? ⟨w.heap.size, 4, none⟩ = false := ((bcell hbel).2 w.heap.size 4 (by simp)).trans (by simp [go_sem])
  have z5 : w1.cell? ⟨w.heap.size, 5, none⟩ = some (.string ⟨#[]⟩) := ((bcell hbel).1 w.heap.size 5 (by simp)).trans (by simp [go_sem])
  have y5 : w1.frozen? ⟨w.heap.size, 5, none⟩ = false := ((bcell hbel).2 w.heap.size 5 (by simp)).trans (by simp [go_sem])
  have z6 : w1.cell? ⟨w.heap.size, 6, none⟩ = some (.string ⟨#[]⟩) := ((bcell hbel).1 w.heap.size 6 (by simp)).trans (by simp [go_sem])
  have y6 : w1.frozen? ⟨w.heap.size, 6, none⟩ = false := ((bcell hbel).2 w.heap.size 6 (by simp)).trans (by simp [go_sem])
  have z7 : w1.cell? ⟨w.heap.size, 7, none⟩ = some (.bool false) := ((bcell hbel).1 w.heap.size 7 (by simp)).trans (by simp [go_sem])
  have y7 : w1.frozen? ⟨w.heap.size, 7, none⟩ = false := ((bcell hbel).2 w.heap.size 7 (by simp)).trans (by simp [go_sem])
  have z8 : w1.cell? ⟨w.heap.size, 8, none⟩ = some (.bool false) := ((bcell hbel).1 w.heap.size 8 (by simp)).trans (by simp [go_sem])
  have y8 : w1.frozen? ⟨w.heap.size, 8, none⟩ = false := ((bcell hbel).2 w.heap.size 8 (by simp)).trans (by simp [go_sem])
  have z9 : w1.cell? ⟨w.heap.size, 9, none⟩ = some (.int .i64 0) := ((bcell hbel).1 w.heap.size 9 (by simp)).trans (by simp [go_sem])
  have y9 : w1.frozen? ⟨w.heap.size, 9, none⟩ = false := ((bcell hbel).2 w.heap.size 9 (by simp)).trans (by simp [go_sem])
  have hn0 : ¬ b = w.heap.size := by omega
  have hn1 : ¬ w.heap.size = b := by omega
  clear hbel
  clear c0_1 c0_2 c0_3 c0_4 c0_5 c0_6 c0_7 c0_8 c0_9 c1_1 c1_2 c1_3 c1_4 c1_5 c1_6 c1_7 c1_8 c1_9 c3_0 c3_1 c3_2 c3_3 c3_4 c3_5 c3_6 c3_7 c3_8 c3_9 c4_0 c4_1 c4_2 c4_3 c4_4 c4_5 c4_6 c4_7 c4_8 c4_9 c5_0 c5_1 c5_2 c5_3 c5_4 c5_5 c5_6 c5_7 c5_8 c5_9
  go_loop [5] (fun i => ∃ k : Nat, k ≤ 2 ∧ i = .int .i64 k) (fun i => 6 - (intOf i).toNat)
  case atStart => exact ⟨0, by omega, rfl⟩
  case round =>
    obtain ⟨k, hk, rfl⟩ := hrel
    have hcase : k = 0 ∨ k = 1 ∨ k = 2 := by omega
    clear hk
    rcases hcase with rfl | rfl | rfl
    · go_wp2_with fail
      go_round
      case rel => exact ⟨1, by omega, by rfl⟩
      case measure => simp [intOf]
    · go_wp2_with fail
      go_round
      case rel => exact ⟨2, by omega, by rfl⟩
      case measure => simp [intOf]
    · go_wp2_with fail
      obtain ⟨W, hW⟩ : ∃ W, W = w1.setCells w.heap.size 0 [.string ⟨#[101, 110]⟩, .string ⟨#[46]⟩, .string ⟨#[44]⟩, .string ⟨#[44]⟩, .string ⟨#[45]⟩, .string ⟨#[37]⟩, .string ⟨#[36]⟩, .bool true, .bool false, .int .i64 3] := ⟨_, rfl⟩
      have hWB : Below w.heap.size w W := by rw [hW]; exact (((((((((hB_w1.setCell (p := ⟨w.heap.size, 0, none⟩) (Nat.le_refl _) _).setCell (p := ⟨w.heap.size, 1, none⟩) (Nat.le_refl _) _).setCell (p := ⟨w.heap.size, 2, none⟩) (Nat.le_refl _) _).setCell (p := ⟨w.heap.size, 3, none⟩) (Nat.le_refl _) _).setCell (p := ⟨w.heap.size, 4, none⟩) (Nat.le_refl _) _).setCell (p := ⟨w.heap.size, 5, none⟩) (Nat.le_refl _) _).setCell (p := ⟨w.heap.size, 6, none⟩) (Nat.le_refl _) _).setCell (p := ⟨w.heap.size, 7, none⟩) (Nat.le_refl _) _).setCell (p := ⟨w.heap.size, 8, none⟩) (Nat.le_refl _) _).setCell (p := ⟨w.heap.size, 9, none⟩) (Nat.le_refl _) _
      have hin := World.cell?_setCells_in w.heap.size [.string ⟨#[101, 110]⟩, .string ⟨#[46]⟩, .string ⟨#[44]⟩, .string ⟨#[44]⟩, .string ⟨#[45]⟩, .string ⟨#[37]⟩, .string ⟨#[36]⟩, .bool true, .bool false, .int .i64 3] 0 w1 (by intro i hi; match i, hi with | 0, _ => exact Option.isSome_of_eq_some z0 | 1, _ => exact Option.isSome_of_eq_some z1 | 2, _ => exact Option.isSome_of_eq_some z2 | 3, _ => exact Option.isSome_of_eq_some z3 | 4, _ => exact Option.isSome_of_eq_some z4 | 5, _ => exact Option.isSome_of_eq_some z5 | 6, _ => exact Option.isSome_of_eq_some z6 | 7, _ => exact Option.isSome_of_eq_some z7 | 8, _ => exact Option.isSome_of_eq_some z8 | 9, _ => exact Option.isSome_of_eq_some z9 | n + 10, h => exact absurd h (by simp))
      rw [← hW] at hin
      have e0 : W.cell? ⟨w.heap.size, 0, none⟩ = some (.string ⟨#[101, 110]⟩) := hin 0 (by simp)
      have e1 : W.cell? ⟨w.heap.size, 1, none⟩ = some (.string ⟨#[46]⟩) := hin 1 (by simp)
      have e2 : W.cell? ⟨w.heap.size, 2, none⟩ = some (.string ⟨#[44]⟩) := hin 2 (by simp)
      have e3 : W.cell? ⟨w.heap.size, 3, none⟩ = some (.string ⟨#[44]⟩) := hin 3 (by simp)
      have e4 : W.cell? ⟨w.heap.size, 4, none⟩ = some (.string ⟨#[45]⟩) := hin 4 (by simp)
      have e5 : W.cell? ⟨w.heap.size, 5, none⟩ = some (.string ⟨#[37]⟩) := hin 5 (by simp)
      have e6 : W.cell? ⟨w.heap.size, 6, none⟩ = some (.string ⟨#[36]⟩) := hin 6 (by simp)
      have e7 : W.cell? ⟨w.heap.size, 7, none⟩ = some (.bool true) := hin 7 (by simp)
      have e8 : W.cell? ⟨w.heap.size, 8, none⟩ = some (.bool false) := hin 8 (by simp)
      have e9 : W.cell? ⟨w.heap.size, 9, none⟩ = some (.int .i64 3) := hin 9 (by simp)
      change bodyPost _ _ _ _ _ (w1.setCells w.heap.size 0 [.string ⟨#[101, 110]⟩, .string ⟨#[46]⟩, .string ⟨#[44]⟩, .string ⟨#[44]⟩, .string ⟨#[45]⟩, .string ⟨#[37]⟩, .string ⟨#[36]⟩, .bool true, .bool false, .int .i64 3])
      rw [← hW]
      clear hW hin
      (refine bodyPost_ret (v := .tuple #[RV Lc.en, .bool true]) (by simp [results, Tryd.results29, go_sem, RV, RZ, tx, Lc.en, Lc.Loc.second, e0, e1, e2, e3, e4, e5, e6, e7, e8, e9]; done) rfl (RetB.of rfl hWB))

set_option maxRecDepth 100000 in
set_option maxHeartbeats 2000000 in
theorem r11_find_fr (w : World) : Calls Tryd.prog 29 #[.string ⟨#[102, 114]⟩] w (RetB (.tuple #[RV Lc.fr, .bool true]) w) := by
  go_enter Tryd.func29, Tryd.ntmps29
  go_wp2_with (go_at_call 27; (with_reducible refine (r11_all_any _).mono ?_); rintro e w1 ⟨b, rfl, hlow, ⟨hb1, ⟨c0_0, c0_1, c0_2, c0_3, c0_4, c0_5, c0_6, c0_7, c0_8, c0_9⟩, ⟨c1_0, c1_1, c1_2, c1_3, c1_4, c1_5, c1_6, c1_7, c1_8, c1_9⟩, ⟨c2_0, c2_1, c2_2, c2_3, c2_4, c2_5, c2_6, c2_7, c2_8, c2_9⟩, ⟨c3_0, c3_1, c3_2, c3_3, c3_4, c3_5, c3_6, c3_7, c3_8, c3_9⟩, ⟨c4_0, c4_1, c4_2, c4_3, c4_4, c4_5, c4_6, c4_7, c4_8, c4_9⟩, ⟨c5_0, c5_1, c5_2, c5_3, c5_4, c5_5, c5_6, c5_7, c5_8, c5_9⟩⟩, hbel⟩)
  have hB_w1 : Below w.heap.size w w1 := Below.trans (by (repeat (first | exact Below.refl _ _ | assumption | refine Below.setCell ?_ (by first | omega | (simp <;> omega)) _ | refine Below.alloc ?_ (by first | omega | (simp <;> omega)) _ | refine Below.drew ?_ | refine below_drewN' ?_ _))) (hbel.mono (by simp))
  have hcz := hbel.size
  simp only [World.size_alloc] at hcz hlow
  have z0 : w1.cell? ⟨w.heap.size, 0, none⟩ = some (.string ⟨#[]⟩) := ((bcell hbel).1 w.heap.size 0 (by simp)).trans (by simp [go_sem])
  have y0 : w1.frozen? ⟨w.heap.size, 0, none⟩ = false := ((bcell hbel).2 w.heap.size 0 (by simp)).trans (by simp [go_sem])
  have z1 : w1.cell? ⟨w.heap.size, 1, none⟩ = some (.string ⟨#[]⟩) := ((bcell hbel).1 w.heap.size 1 (by simp)).trans (by simp [go_sem])
  have y1 : w1.frozen? ⟨w.heap.size, 1, none⟩ = false := ((bcell hbel).2 w.heap.size 1 (by simp)).trans (by simp [go_sem])
  have z2 : w1.cell? ⟨w.heap.size, 2, none⟩ = some (.string ⟨#[]⟩) := ((bcell hbel).1 w.heap.size 2 (by simp)).trans (by simp [go_sem])
  have y2 : w1.frozen? ⟨w.heap.size, 2, none⟩ = false := ((bcell hbel).2 w.heap.size 2 (by simp)).trans (by simp [go_sem])
  have z3 : w1.cell? ⟨w.heap.size, 3, none⟩ = some (.string ⟨#[]⟩) := ((bcell hbel).1 w.heap.size 3 (by simp)).trans (by simp [go_sem])
  have y3 : w1.frozen? ⟨w.heap.size, 3, none⟩ = false := ((bcell hbel).2 w.heap.size 3 (by simp)).trans (by simp [go_sem])
  have z4 : w1.cell? ⟨w.heap.size, 4, none⟩ = some (.string ⟨#[]⟩) := ((bcell hbel).1 w.heap.size 4 (by simp)).trans (by simp [go_sem])
  have y4 : w1.frozen? ⟨w.heap.size, 4, none⟩ = false := ((bcell hbel).2 w.heap.size 4 (by simp)).trans (by simp [go_sem])
  have z5 : w1.cell? ⟨w.heap.size, 5, none⟩ = some (.string ⟨#[]⟩) := ((bcell hbel).1 w.heap.size 5 (by simp)).trans (by simp [go_sem])
  have y5 : w1.frozen? ⟨w.heap.size, 5, none⟩ = false := ((bcell hbel).2 w.heap.size 5 (by simp)).trans (by simp [go_sem])
  have z6 : w1.cell? ⟨w.heap.size, 6, none⟩ = some (.string ⟨#[]⟩) := ((bcell hbel).1 w.heap.size 6 (by simp)).trans (by simp [go_sem])
  have y6 : w1.frozen? ⟨w.heap.size, 6, none⟩ = false := ((bcell hbel).2 w.heap.size 6 (by simp)).trans (by simp [go_sem])
  have z7 : w1.cell? ⟨w.heap.size, 7, none⟩ = some (.bool false) := ((bcell hbel).1 w.heap.size 7 (by simp)).trans (by simp [go_sem])
  have y7 : w1.frozen? ⟨w.heap.size, 7, none⟩ = false := ((bcell hbel).2 w.heap.size 7 (by simp)).trans (by simp [go_sem])
  have z8 : w1.cell? ⟨w.heap.size, 8, none⟩ = some (.bool false) := ((bcell hbel).1 w.heap.size 8 (by simp)).trans (by simp [go_sem])
  have y8 : w1.frozen? ⟨w.heap.size, 8, none⟩ = false := ((bcell hbel).2 w.heap.size 8 (by simp)).trans (by simp [go_sem])
  have z9 : w1.cell? ⟨w.heap.size, 9, none⟩ = some (.int .i64 0) := ((bcell hbel).1 w.heap.size 9 (by simp)).trans (by simp [go_sem])
  have y9 : w1.frozen? ⟨w.heap.size, 9, none⟩ = false := ((bcell hbel).2 w.heap.size 9 (by simp)).trans (by simp [go_sem])
  have hn0 : ¬ b = w.heap.size := by omega
  have hn1 : ¬ w.heap.size = b := by omega
  clear hbel
  clear c0_1 c0_2 c0_3 c0_4 c0_5 c0_6 c0_7 c0_8 c0_9 c1_1 c1_2 c1_3 c1_4 c1_5 c1_6 c1_7 c1_8 c1_9 c2_1 c2_2 c2_3 c2_4 c2_5 c2_6 c2_7 c2_8 c2_9 c4_0 c4_1 c4_2 c4_3 c4_4 c4_5 c4_6 c4_7 c4_8 c4_9 c5_0 c5_1 c5_2 c5_3 c5_4 c5_5 c5_6 c5_7 c5_8 c5_9
  go_loop [5] (fun i => ∃ k : Nat, k ≤ 3 ∧ i = .int .i64 k) (fun i => 6 - (intOf i).toNat)
  case atStart => exact ⟨0, by omega, rfl⟩
  case round =>
    obtain ⟨k, hk, rfl⟩ := hrel
    have hcase : k = 0 ∨ k = 1 ∨ k = 2 ∨ k = 3 := by omega
    clear hk
    rcases hcase with rfl | rfl | rfl | rfl
    · go_wp2_with fail
      go_round
      case rel => exact ⟨1, by omega, by rfl⟩
      case measure => simp [intOf]
    · go_wp2_with fail
      go_round
      case rel => exact ⟨2, by omega, by rfl⟩
      case measure => simp [intOf]
    · go_wp2_with fail
      go_round
      case rel => exact ⟨3, by omega, by rfl⟩
      case measure => simp [intOf]
    · go_wp2_with fail
      obtain ⟨W, hW⟩ : ∃ W, W = w1.setCells w.heap.size 0 [.string ⟨#[102, 114]⟩, .string ⟨#[44]⟩, .string ⟨#[226, 128, 175]⟩, .string ⟨#[59]⟩, .string ⟨#[45]⟩, .string ⟨#[37]⟩, .string ⟨#[226, 130, 172]⟩, .bool false, .bool true, .int .i64 3] := ⟨_, rfl⟩
      have hWB : Below w.heap.size w W := by rw [hW]; exact (((((((((hB_w1.setCell (p := ⟨w.heap.size, 0, none⟩) (Nat.le_refl _) _).setCell (p := ⟨w.heap.size, 1, none⟩) (Nat.le_refl _) _).setCell (p := ⟨w.heap.size, 2, none⟩) (Nat.le_refl _) _).setCell (p := ⟨w.heap.size, 3, none⟩) (Nat.le_refl _) _).setCell (p := ⟨w.heap.size, 4, none⟩) (Nat.le_refl _) _).setCell (p := ⟨w.heap.size, 5, none⟩) (Nat.le_refl _) _).setCell (p := ⟨w.heap.size, 6, none⟩) (Nat.le_refl _) _).setCell (p := ⟨w.heap.size, 7, none⟩) (Nat.le_refl _) _).setCell (p := ⟨w.heap.size, 8, none⟩) (Nat.le_refl _) _).setCell (p := ⟨w.heap.size, 9, none⟩) (Nat.le_refl _) _
      have hin := World.cell?_setCells_in w.heap.size [.string ⟨#[102, 114]⟩, .string ⟨#[44]⟩, .string ⟨#[226, 128, 175]⟩, .string ⟨#[59]⟩, .string ⟨#[45]⟩, .string ⟨#[37]⟩, .string ⟨#[226, 130, 172]⟩, .bool false, .bool true, .int .i64 3] 0 w1 (by intro i hi; match i, hi with | 0, _ => exact Option.isSome_of_eq_some z0 | 1, _ => exact Option.isSome_of_eq_some z1 | 2, _ => exact Option.isSome_of_eq_some z2 | 3, _ => exact Option.isSome_of_eq_some z3 | 4, _ => exact Option.isSome_of_eq_some z4 | 5, _ => exact Option.isSome_of_eq_some z5 | 6, _ => exact Option.isSome_of_eq_some z6 | 7, _ => exact Option.isSome_of_eq_some z7 | 8, _ => exact Option.isSome_of_eq_some z8 | 9, _ => exact Option.isSome_of_eq_some z9 | n + 10, h => exact absurd h (by simp))
      rw [← hW] at hin
      have e0 : W.cell? ⟨w.heap.size, 0, none⟩ = some (.string ⟨#[102, 114]⟩) := hin 0 (by simp)
      have e1 : W.cell? ⟨w.heap.size, 1, none⟩ = some (.string ⟨#[44]⟩) := hin 1 (by simp)
      have e2 : W.cell? ⟨w.heap.size, 2, none⟩ = some (.string ⟨#[226, 128, 175]⟩) := hin 2 (by simp)
      have e3 : W.cell? ⟨w.heap.size, 3, none⟩ = some (.string ⟨#[59]⟩) := hin 3 (by simp)
      have e4 : W.cell? ⟨w.heap.size, 4, none⟩ = some (.string ⟨#[45]⟩) := hin 4 (by simp)
      have e5 : W.cell? ⟨w.heap.size, 5, none⟩ = some (.string ⟨#[37]⟩) := hin 5 (by simp)
      have e6 : W.cell? ⟨w.heap.size, 6, none⟩ = some (.string ⟨#[226, 130, 172]⟩) := hin 6 (by simp)
      have e7 : W.cell? ⟨w.heap.size, 7, none⟩ = some (.bool false) := hin 7 (by simp)
      have e8 : W.cell? ⟨w.heap.size, 8, none⟩ = some (.bool true) := hin 8 (by simp)
      have e9 : W.cell? ⟨w.heap.size, 9, none⟩ = some (.int .i64 3) := hin 9 (by simp)
      change bodyPost _ _ _ _ _ (w1.setCells w.heap.size 0 [.string ⟨#[102, 114]⟩, .string ⟨#[44]⟩, .string ⟨#[226, 128, 175]⟩, .string ⟨#[59]⟩, .string ⟨#[45]⟩, .string ⟨#[37]⟩, .string ⟨#[226, 130, 172]⟩, .bool false, .bool true, .int .i64 3])
      rw [← hW]
      clear hW hin
      (refine bodyPost_ret (v := .tuple #[RV Lc.fr, .bool true]) (by simp [results, Tryd.results29, go_sem, RV, RZ, tx, Lc.fr, Lc.Loc.second, e0, e1, e2, e3, e4, e5, e6, e7, e8, e9]; done) rfl (RetB.of rfl hWB))

set_option maxRecDepth 100000 in
set_option maxHeartbeats 2000000 in
theorem r11_find_hi (w : World) : Calls Tryd.prog 29 #[.string ⟨#[104, 105]⟩] w (RetB (.tuple #[RV Lc.hi, .bool true]) w) := by
  go_enter Tryd.func29, Tryd.ntmps29
  go_wp2_with (go_at_call 27; (with_reducible refine (r11_all_any _).mono ?_); rintro e w1 ⟨b, rfl, hlow, ⟨hb1, ⟨c0_0, c0_1, c0_2, c0_3, c0_4, c0_5, c0_6, c0_7, c0_8, c0_9⟩, ⟨c1_0, c1_1, c1_2, c1_3, c1_4, c1_5, c1_6, c1_7, c1_8, c1_9⟩, ⟨c2_0, c2_1, c2_2, c2_3, c2_4, c2_5, c2_6, c2_7, c2_8, c2_9⟩, ⟨c3_0, c3_1, c3_2, c3_3, c3_4, c3_5, c3_6, c3_7, c3_8, c3_9⟩, ⟨c4_0, c4_1, c4_2, c4_3, c4_4, c4_5, c4_6, c4_7, c4_8, c4_9⟩, ⟨c5_0, c5_1, c5_2, c5_3, c5_4, c5_5, c5_6, c5_7, c5_8, c5_9⟩⟩, hbel⟩)
  have hB_w1 : Below w.heap.size w w1 := Below.trans (by (repeat (first | exact Below.refl _ _ | assumption | refine Below.setCell ?_ (by first | omega | (simp <;> omega)) _ | refine Below.alloc ?_ (by first | omega | (simp <;> omega)) _ | refine Below.drew ?_ | refine below_drewN' ?_ _))) (hbel.mono (by simp))
  have hcz := hbel.size
  simp only [World.size_alloc] at hcz hlow
  have z0 : w1.cell? ⟨w.heap.size, 0, none⟩ = some (.string ⟨#[]⟩) := ((bcell hbel).1 w.heap.size 0 (by simp)).trans (by simp [go_sem])
  have y0 : w1.frozen? ⟨w.heap.size, 0, none⟩ = false := ((bcell hbel).2 w.heap.size 0 (by simp)).trans (by simp [go_sem])
  have z1 : w1.cell? ⟨w.heap.size, 1, none⟩ = some (.string ⟨#[]⟩) := ((bcell hbel).1 w.heap.size 1 (by simp)).trans (by simp [go_sem])
  have y1 : w1.frozen? ⟨w.heap.size, 1, none⟩ = false := ((bcell hbel).2 w.heap.size 1 (by simp)).trans (by simp [go_sem])
  have z2 : w1.cell? ⟨w.heap.size, 2, none⟩ = some (.string ⟨#[]⟩) := ((bcell hbel).1 w.heap.size 2 (by simp)).trans (by simp [go_sem])
  have y2 : w1.frozen? ⟨w.heap.size, 2, none⟩ = false := ((bcell hbel).2 w.heap.size 2 (by simp)).trans (by simp [go_sem])
  have z3 : w1.cell? ⟨w.heap.size, 3, none⟩ = some (.string ⟨#[]⟩) := ((bcell hbel).1 w.heap.size 3 (by simp)).trans (by simp [go_sem])
  have y3 : w1.frozen? ⟨w.heap.size, 3, none⟩ = false := ((bcell hbel).2 w.heap.size 3 (by simp)).trans (by simp [go_sem])
  have z4 : w1.cell? ⟨w.heap.size, 4, none⟩ = some (.string ⟨#[]⟩) := ((bcell hbel).1 w.heap.size 4 (by simp)).trans (by simp [go_sem])
  have y4 : w1.frozen? ⟨w.heap.size, 4, none⟩ = false := ((bcell hbel).2 w.heap.size 4 (by simp)).trans (by simp [go_sem])
  have z5 : w1.cell? ⟨w.heap.size, 5, none⟩ = some (.string ⟨#[]⟩) := ((bcell hbel).1 w.heap.size 5 (by simp)).trans (by simp [go_sem])
  have y5 : w1.frozen? ⟨w.heap.size, 5, none⟩ = false := ((bcell hbel).2 w.heap.size 5 (by simp)).trans (by simp [go_sem])
  have z6 : w1.cell? ⟨w.heap.size, 6, none⟩ = some (.string ⟨#[]⟩) := ((bcell hbel).1 w.heap.size 6 (by simp)).trans (by simp [go_sem])
  have y6 : w1.frozen? ⟨w.heap.size, 6, none⟩ = false := ((bcell hbel).2 w.heap.size 6 (by simp)).trans (by simp [go_sem])
  have z7 : w1.cell? ⟨w.heap.size, 7, none⟩ = some (.bool false) := ((bcell hbel).1 w.heap.size 7 (by simp)).trans (by simp [go_sem])
  have y7 : w1.frozen? ⟨w.heap.size, 7, none⟩ = false := ((bcell hbel).2 w.heap.size 7 (by simp)).trans (by simp [go_sem])
  have z8 : w1.cell? ⟨w.heap.size, 8, none⟩ = some (.bool false) := ((bcell hbel).1 w.heap.size 8 (by simp)).trans (by simp [go_sem])
  have y8 : w1.frozen? ⟨w.heap.size, 8, none⟩ = false := ((bcell hbel).2 w.heap.size 8 (by simp)).trans (by simp [go_sem])
  have z9 : w1.cell? ⟨w.heap.size, 9, none⟩ = some (.int .i64 0) := ((bcell hbel).1 w.heap.size 9 (by simp)).trans (by simp [go_sem])
  have y9 : w1.frozen? ⟨w.heap.size, 9, none⟩ = false := ((bcell hbel).2 w.heap.size 9 (by simp)).trans (by simp [go_sem])
  have hn0 : ¬ b = w.heap.size := by omega
  have hn1 : ¬ w.heap.size = b := by omega
  clear hbel
  clear c0_1 c0_2 c0_3 c0_4 c0_5 c0_6 c0_7 c0_8 c0_9 c1_1 c1_2 c1_3 c1_4 c1_5 c1_6 c1_7 c1_8 c1_9 c2_1 c2_2 c2_3 c2_4 c2_5 c2_6 c2_7 c2_8 c2_9 c3_1 c3_2 c3_3 c3_4 c3_5 c3_6 c3_7 c3_8 c3_9 c5_0 c5_1 c5_2 c5_3 c5_4 c5_5 c5_6 c5_7 c5_8 c5_9
  go_loop [5] (fun i => ∃ k : Nat, k ≤ 4 ∧ i = .int .i64 k) (fun i => 6 - (intOf i).toNat)
  case atStart => exact ⟨0, by omega, rfl⟩
  case round =>
    obtain ⟨k, hk, rfl⟩ := hrel
    have hcase : k = 0 ∨ k = 1 ∨ k = 2 ∨ k = 3 ∨ k = 4 := by omega
    clear hk
    rcases hcase with rfl | rfl | rfl | rfl | rfl
    · go_wp2_with fail
      go_round
      case rel => exact ⟨1, by omega, by rfl⟩
      case measure => simp [intOf]
    · go_wp2_with fail
      go_round
      case rel => exact ⟨2, by omega, by rfl⟩
      case measure => simp [intOf]
    · go_wp2_with fail
      go_round
      case rel => exact ⟨3, by omega, by rfl⟩
      case measure => simp [intOf]
    · go_wp2_with fail
      go_round
      case rel => exact ⟨4, by omega, by rfl⟩
      case measure => simp [intOf]
    · go_wp2_with fail
      obtain ⟨W, hW⟩ : ∃ W, W = w1.setCells w.heap.size 0 [.string ⟨#[104, 105]⟩, .string ⟨#[46]⟩, .string ⟨#[44]⟩, .string ⟨#[44]⟩, .string ⟨#[45]⟩, .string ⟨#[37]⟩, .string ⟨#[226, 130, 185]⟩, .bool true, .bool false, .int .i64 2] := ⟨_, rfl⟩
      have hWB : Below w.heap.size w W := by rw [hW]; exact (((((((((hB_w1.setCell (p := ⟨w.heap.size, 0, none⟩) (Nat.le_refl _) _).setCell (p := ⟨w.heap.size, 1, none⟩) (Nat.le_refl _) _).setCell (p := ⟨w.heap.size, 2, none⟩) (Nat.le_refl _) _).setCell (p := ⟨w.heap.size, 3, none⟩) (Nat.le_refl _) _).setCell (p := ⟨w.heap.size, 4, none⟩) (Nat.le_refl _) _).setCell (p := ⟨w.heap.size, 5, none⟩) (Nat.le_refl _) _).setCell (p := ⟨w.heap.size, 6, none⟩) (Nat.le_refl _) _).setCell (p := ⟨w.heap.size, 7, none⟩) (Nat.le_refl _) _).setCell (p := ⟨w.heap.size, 8, none⟩) (Nat.le_refl _) _).setCell (p := ⟨w.heap.size, 9, none⟩) (Nat.le_refl _) _
      have hin := World.cell?_setCells_in w.heap.size [.string ⟨#[104, 105]⟩, .string ⟨#[46]⟩, .string ⟨#[44]⟩, .string ⟨#[44]⟩, .string ⟨#[45]⟩, .string ⟨#[37]⟩, .string ⟨#[226, 130, 185]⟩, .bool true, .bool false, .int .i64 2] 0 w1 (by intro i hi; match i, hi with | 0, _ => exact Option.isSome_of_eq_some z0 | 1, _ => exact Option.isSome_of_eq_some z1 | 2, _ => exact Option.isSome_of_eq_some z2 | 3, _ => exact Option.isSome_of_eq_some z3 | 4, _ => exact Option.isSome_of_eq_some z4 | 5, _ => exact Option.isSome_of_eq_some z5 | 6, _ => exact Option.isSome_of_eq_some z6 | 7, _ => exact Option.isSome_of_eq_some z7 | 8, _ => exact Option.isSome_of_eq_some z8 | 9, _ => exact Option.isSome_of_eq_some z9 | n + 10, h => exact absurd h (by simp))
      rw [← hW] at hin
      have e0 : W.cell? ⟨w.heap.size, 0, none⟩ = some (.string ⟨#[104, 105]⟩) := hin 0 (by simp)
      have e1 : W.cell? ⟨w.heap.size, 1, none⟩ = some (.string ⟨#[46]⟩) := hin 1 (by simp)
      have e2 : W.cell? ⟨w.heap.size, 2, none⟩ = some (.string ⟨#[44]⟩) := hin 2 (by simp)
      have e3 : W.cell? ⟨w.heap.size, 3, none⟩ = some (.string ⟨#[44]⟩) := hin 3 (by simp)
      have e4 : W.cell? ⟨w.heap.size, 4, none⟩ = some (.string ⟨#[45]⟩) := hin 4 (by simp)
      have e5 : W.cell? ⟨w.heap.size, 5, none⟩ = some (.string ⟨#[37]⟩) := hin 5 (by simp)
      have e6 : W.cell? ⟨w.heap.size, 6, none⟩ = some (.string ⟨#[226, 130, 185]⟩) := hin 6 (by simp)
      have e7 : W.cell? ⟨w.heap.size, 7, none⟩ = some (.bool true) := hin 7 (by simp)
      have e8 : W.cell? ⟨w.heap.size, 8, none⟩ = some (.bool false) := hin 8 (by simp)
      have e9 : W.cell? ⟨w.heap.size, 9, none⟩ = some (.int .i64 2) := hin 9 (by simp)
      change bodyPost _ _ _ _ _ (w1.setCells w.heap.size 0 [.string ⟨#[104, 105]⟩, .string ⟨#[46]⟩, .string ⟨#[44]⟩, .string ⟨#[44]⟩, .string ⟨#[45]⟩, .string ⟨#[37]⟩, .string ⟨#[226, 130, 185]⟩, .bool true, .bool false, .int .i64 2])
      rw [← hW]
      clear hW hin
      (refine bodyPost_ret (v := .tuple #[RV Lc.hi, .bool true]) (by simp [results, Tryd.results29, go_sem, RV, RZ, tx, Lc.hi, Lc.Loc.second, e0, e1, e2, e3, e4, e5, e6, e7, e8, e9]; done) rfl (RetB.of rfl hWB))

set_option maxRecDepth 100000 in
set_option maxHeartbeats 2000000 in
theorem r11_find_sv (w : World) : Calls Tryd.prog 29 #[.string ⟨#[115, 118]⟩] w (RetB (.tuple #[RV Lc.sv, .bool true]) w) := by
  go_enter Tryd.func29, Tryd.ntmps29
  go_wp2_with (go_at_call 27; (with_reducible refine (r11_all_any _).mono ?_); rintro e w1 ⟨b, rfl, hlow, ⟨hb1, ⟨c0_0, c0_1, c0_2, c0_3, c0_4, c0_5, c0_6, c0_7, c0_8, c0_9⟩, ⟨c1_0, c1_1, c1_2, c1_3, c1_4, c1_5, c1_6, c1_7, c1_8, c1_9⟩, ⟨c2_0, c2_1, c2_2, c2_3, c2_4, c2_5, c2_6, c2_7, c2_8, c2_9⟩, ⟨c3_0, c3_1, c3_2, c3_3, c3_4, c3_5, c3_6, c3_7, c3_8, c3_9⟩, ⟨c4_0, c4_1, c4_2, c4_3, c4_4, c4_5, c4_6, c4_7, c4_8, c4_9⟩, ⟨c5_0, c5_1, c5_2, c5_3, c5_4, c5_5, c5_6, c5_7, c5_8, c5_9⟩⟩, hbel⟩)
  have hB_w1 : Below w.heap.size w w1 := Below.trans (by (repeat (first | exact Below.refl _ _ | assumption | refine Below.setCell ?_ (by first | omega | (simp <;> omega)) _ | refine Below.alloc ?_ (by first | omega | (simp <;> omega)) _ | refine Below.drew ?_ | refine below_drewN' ?_ _))) (hbel.mono (by simp))
  have hcz := hbel.size
  simp only [World.size_alloc] at hcz hlow
  have z0 : w1.cell? ⟨w.heap.size, 0, none⟩ = some (.string ⟨#[]⟩) := ((bcell hbel).1 w.heap.size 0 (by simp)).trans (by simp [go_sem])
  have y0 : w1.frozen? ⟨w.heap.size, 0, none⟩ = false := ((bcell hbel).2 w.heap.size 0 (by simp)).trans (by simp [go_sem])
  have z1 : w1.cell? ⟨w.heap.size, 1, none⟩ = some (.string ⟨#[]⟩) := ((bcell hbel).1 w.heap.size 1 (by simp)).trans (by simp [go_sem])
  have y1 : w1.frozen? ⟨w.heap.size, 1, none⟩ = false := ((bcell hbel).2 w.heap.size 1 (by simp)).trans (by simp [go_sem])
  have z2 : w1.cell? ⟨w.heap.size, 2, none⟩ = some (.string ⟨#[]⟩) := ((bcell hbel).1 w.heap.size 2 (by simp)).trans (by simp [go_sem])
  have y2 : w1.frozen? ⟨w.heap.size, 2, none⟩ = false := ((bcell hbel).2 w.heap.size 2 (by simp)).trans (by simp [go_sem])
  have z3 : w1.cell? ⟨w.heap.size, 3, none⟩ = some (.string ⟨#[]⟩) := ((bcell hbel).1 w.heap.size 3 (by simp)).trans (by simp [go_sem])
  have y3 : w1.frozen? ⟨w.heap.size, 3, none⟩ = false := ((bcell hbel).2 w.heap.size 3 (by simp)).trans (by simp [go_sem])
  have z4 : w1.cell? ⟨w.heap.size, 4, none⟩ = some (.string ⟨#[]⟩) := ((bcell hbel).1 w.heap.size 4 (by simp)).trans (by simp [go_sem])
  have y4 : w1.frozen? ⟨w.heap.size, 4, none⟩ = false := ((bcell hbel).2 w.heap.size 4 (by simp)).trans (by simp [go_sem])
  have z5 : w1.cell? ⟨w.heap.size, 5, none⟩ = some (.string ⟨#[]⟩) := ((bcell hbel).1 w.heap.size 5 (by simp)).trans (by simp [go_sem])
  have y5 : w1.frozen? ⟨w.heap.size, 5, none⟩ = false := ((bcell hbel).2 w.heap.size 5 (by simp)).trans (by simp [go_sem])
  have z6 : w1.cell? ⟨w.heap.size, 6, none⟩ = some (.string ⟨#[]⟩) := ((bcell hbel).1 w.heap.size 6 (by simp)).trans (by simp [go_sem])
  have y6 : w1.frozen? ⟨w.heap.size, 6, none⟩ = false := ((bcell hbel).2 w.heap.size 6 (by simp)).trans (by simp [go_sem])
  have z7 : w1.cell? ⟨w.heap.size, 7, none⟩ = some (.bool false) := ((bcell hbel).1 w.heap.size 7 (by simp)).trans (by simp [go_sem])
  have y7 : w1.frozen? ⟨w.heap.size, 7, none⟩ = false := ((bcell hbel).2 w.heap.size 7 (by simp)).trans (by simp [go_sem])
  have z8 : w1.cell? ⟨w.heap.size, 8, none⟩ = some (.bool false) := ((bcell hbel).1 w.heap.size 8 (by simp)).trans (by simp [go_sem])
  have y8 : w1.frozen? ⟨w.heap.size, 8, none⟩ = false := ((bcell hbel).2 w.heap.size 8 (by simp)).trans (by simp [go_sem])
  have z9 : w1.cell? ⟨w.heap.size, 9, none⟩ = some (.int .i64 0) := ((bcell hbel).1 w.heap.size 9 (by simp)).trans (by simp [go_sem])
  have y9 : w1.frozen? ⟨w.heap.size, 9, none⟩ = false := ((bcell hbel).2 w.heap.size 9 (by simp)).trans (by simp [go_sem])
  have hn0 : ¬ b = w.heap.size := by omega
  have hn1 : ¬ w.heap.size = b := by omega
  clear hbel
  clear c0_1 c0_2 c0_3 c0_4 c0_5 c0_6 c0_7 c0_8 c0_9 c1_1 c1_2 c1_3 c1_4 c1_5 c1_6 c1_7 c1_8 c1_9 c2_1 c2_2 c2_3 c2_4 c2_5 c2_6 c2_7 c2_8 c2_9 c3_1 c3_2 c3_3 c3_4 c3_5 c3_6 c3_7 c3_8 c3_9 c4_1 c4_2 c4_3 c4_4 c4_5 c4_6 c4_7 c4_8 c4_9
  go_loop [5] (fun i => ∃ k : Nat, k ≤ 5 ∧ i = .int .i64 k) (fun i => 6 - (intOf i).toNat)
  case atStart => exact ⟨0, by omega, rfl⟩
  case round =>
    obtain ⟨k, hk, rfl⟩ := hrel
    have hcase : k = 0 ∨ k = 1 ∨ k = 2 ∨ k = 3 ∨ k = 4 ∨ k = 5 := by omega
    clear hk
    rcases hcase with rfl | rfl | rfl | rfl | rfl | rfl
    · go_wp2_with fail
      go_round
      case rel => exact ⟨1, by omega, by rfl⟩
      case measure => simp [intOf]
    · go_wp2_with fail
      go_round
      case rel => exact ⟨2, by omega, by rfl⟩
      case measure => simp [intOf]
    · go_wp2_with fail
      go_round
      case rel => exact ⟨3, by omega, by rfl⟩
      case measure => simp [intOf]
    · go_wp2_with fail
      go_round
      case rel => exact ⟨4, by omega, by rfl⟩
      case measure => simp [intOf]
    · go_wp2_with fail
      go_round
      case rel => exact ⟨5, by omega, by rfl⟩
      case measure => simp [intOf]
    · go_wp2_with fail
      obtain ⟨W, hW⟩ : ∃ W, W = w1.setCells w.heap.size 0 [.string ⟨#[115, 118]⟩, .string ⟨#[44]⟩, .string ⟨#[194, 160]⟩, .string ⟨#[59]⟩, .string ⟨#[226, 136, 146]⟩, .string ⟨#[37]⟩, .string ⟨#[107, 114]⟩, .bool false, .bool true, .int .i64 3] := ⟨_, rfl⟩
      have hWB : Below w.heap.size w W := by rw [hW]; exact (((((((((hB_w1.setCell (p := ⟨w.heap.size, 0, none⟩) (Nat.le_refl _) _).setCell (p := ⟨w.heap.size, 1, none⟩) (Nat.le_refl _) _).setCell (p := ⟨w.heap.size, 2, none⟩) (Nat.le_refl _) _).setCell (p := ⟨w.heap.size, 3, none⟩) (Nat.le_refl _) _).setCell (p := ⟨w.heap.size, 4, none⟩) (Nat.le_refl _) _).setCell (p := ⟨w.heap.size, 5, none⟩) (Nat.le_refl _) _).setCell (p := ⟨w.heap.size, 6, none⟩) (Nat.le_refl _) _).setCell (p := ⟨w.heap.size, 7, none⟩) (Nat.le_refl _) _).setCell (p := ⟨w.heap.size, 8, none⟩) (Nat.le_refl _) _).setCell (p := ⟨w.heap.size, 9, none⟩) (Nat.le_refl _) _
      have hin := World.cell?_setCells_in w.heap.size [.string ⟨#[115, 118]⟩, .string ⟨#[44]⟩, .string ⟨#[194, 160]⟩, .string ⟨#[59]⟩, .string ⟨#[226, 136, 146]⟩, .string ⟨#[37]⟩, .string ⟨#[107, 114]⟩, .bool false, .bool true, .int .i64 3] 0 w1 (by intro i hi; match i, hi with | 0, _ => exact Option.isSome_of_eq_some z0 | 1, _ => exact Option.isSome_of_eq_some z1 | 2, _ => exact Option.isSome_of_eq_some z2 | 3, _ => exact Option.isSome_of_eq_some z3 | 4, _ => exact Option.isSome_of_eq_some z4 | 5, _ => exact Option.isSome_of_eq_some z5 | 6, _ => exact Option.isSome_of_eq_some z6 | 7, _ => exact Option.isSome_of_eq_some z7 | 8, _ => exact Option.isSome_of_eq_some z8 | 9, _ => exact Option.isSome_of_eq_some z9 | n + 10, h => exact absurd h (by simp))
      rw [← hW] at hin
      have e0 : W.cell? ⟨w.heap.size, 0, none⟩ = some (.string ⟨#[115, 118]⟩) := hin 0 (by simp)
      have e1 : W.cell? ⟨w.heap.size, 1, none⟩ = some (.string ⟨#[44]⟩) := hin 1 (by simp)
      have e2 : W.cell? ⟨w.heap.size, 2, none⟩ = some (.string ⟨#[194, 160]⟩) := hin 2 (by simp)
      have e3 : W.cell? ⟨w.heap.size, 3, none⟩ = some (.string ⟨#[59]⟩) := hin 3 (by simp)
      have e4 : W.cell? ⟨w.heap.size, 4, none⟩ = some (.string ⟨#[226, 136, 146]⟩) := hin 4 (by simp)
      have e5 : W.cell? ⟨w.heap.size, 5, none⟩ = some (.string ⟨#[37]⟩) := hin 5 (by simp)
      have e6 : W.cell? ⟨w.heap.size, 6, none⟩ = some (.string ⟨#[107, 114]⟩) := hin 6 (by simp)
      have e7 : W.cell? ⟨w.heap.size, 7, none⟩ = some (.bool false) := hin 7 (by simp)
      have e8 : W.cell? ⟨w.heap.size, 8, none⟩ = some (.bool true) := hin 8 (by simp)
      have e9 : W.cell? ⟨w.heap.size, 9, none⟩ = some (.int .i64 3) := hin 9 (by simp)
      change bodyPost _ _ _ _ _ (w1.setCells w.heap.size 0 [.string ⟨#[115, 118]⟩, .string ⟨#[44]⟩, .string ⟨#[194, 160]⟩, .string ⟨#[59]⟩, .string ⟨#[226, 136, 146]⟩, .string ⟨#[37]⟩, .string ⟨#[107, 114]⟩, .bool false, .bool true, .int .i64 3])
      rw [← hW]
      clear hW hin
      (refine bodyPost_ret (v := .tuple #[RV Lc.sv, .bool true]) (by simp [results, Tryd.results29, go_sem, RV, RZ, tx, Lc.sv, Lc.Loc.second, e0, e1, e2, e3, e4, e5, e6, e7, e8, e9]; done) rfl (RetB.of rfl hWB))

set_option maxRecDepth 100000 in
set_option maxHeartbeats 2000000 in
theorem r11_find_no (s : ByteArray) (w : World) (m0 : ([99, 104] == s.toList) = false) (m1 : ([100, 101] == s.toList) = false) (m2 : ([101, 110] == s.toList) = false) (m3 : ([102, 114] == s.toList) = false) (m4 : ([104, 105] == s.toList) = false) (m5 : ([115, 118] == s.toList) = false) : Calls Tryd.prog 29 #[.string s] w (RetB (.tuple #[RZ, .bool false]) w) := by
  go_enter Tryd.func29, Tryd.ntmps29
  go_wp2_with (go_at_call 27; (with_reducible refine (r11_all_any _).mono ?_); rintro e w1 ⟨b, rfl, hlow, ⟨hb1, ⟨c0_0, c0_1, c0_2, c0_3, c0_4, c0_5, c0_6, c0_7, c0_8, c0_9⟩, ⟨c1_0, c1_1, c1_2, c1_3, c1_4, c1_5, c1_6, c1_7, c1_8, c1_9⟩, ⟨c2_0, c2_1, c2_2, c2_3, c2_4, c2_5, c2_6, c2_7, c2_8, c2_9⟩, ⟨c3_0, c3_1, c3_2, c3_3, c3_4, c3_5, c3_6, c3_7, c3_8, c3_9⟩, ⟨c4_0, c4_1, c4_2, c4_3, c4_4, c4_5, c4_6, c4_7, c4_8, c4_9⟩, ⟨c5_0, c5_1, c5_2, c5_3, c5_4, c5_5, c5_6, c5_7, c5_8, c5_9⟩⟩, hbel⟩)
  have hB_w1 : Below w.heap.size w w1 := Below.trans (by (repeat (first | exact Below.refl _ _ | assumption | refine Below.setCell ?_ (by first | omega | (simp <;> omega)) _ | refine Below.alloc ?_ (by first | omega | (simp <;> omega)) _ | refine Below.drew ?_ | refine below_drewN' ?_ _))) (hbel.mono (by simp))
  have hcz := hbel.size
  simp only [World.size_alloc] at hcz hlow
  have z0 : w1.cell? ⟨w.heap.size, 0, none⟩ = some (.string ⟨#[]⟩) := ((bcell hbel).1 w.heap.size 0 (by simp)).trans (by simp [go_sem])
  have y0 : w1.frozen? ⟨w.heap.size, 0, none⟩ = false := ((bcell hbel).2 w.heap.size 0 (by simp)).trans (by simp [go_sem])
  have z1 : w1.cell? ⟨w.heap.size, 1, none⟩ = some (.string ⟨#[]⟩) := ((bcell hbel).1 w.heap.size 1 (by simp)).trans (by simp [go_sem])
  have y1 : w1.frozen? ⟨w.heap.size, 1, none⟩ = false := ((bcell hbel).2 w.heap.size 1 (by simp)).trans (by simp [go_sem])
  have z2 : w1.cell? ⟨w.heap.size, 2, none⟩ = some (.string ⟨#[]⟩) := ((bcell hbel).1 w.heap.size 2 (by simp)).trans (by simp [go_sem])
  have y2 : w1.frozen? ⟨w.heap.size, 2, none⟩ = false := ((bcell hbel).2 w.heap.size 2 (by simp)).trans (by simp [go_sem])
  have z3 : w1.cell? ⟨w.heap.size, 3, none⟩ = some (.string ⟨#[]⟩) := ((bcell hbel).1 w.heap.size 3 (by simp)).trans (by simp [go_sem])
  have y3 : w1.frozen? ⟨w.heap.size, 3, none⟩ = false := ((bcell hbel).2 w.heap.size 3 (by simp)).trans (by simp [go_sem])
  have z4 : w1.cell? ⟨w.heap.size, 4, none⟩ = some (.string ⟨#[]⟩) := ((bcell hbel).1 w.heap.size 4 (by simp)).trans (by simp [go_sem])
  have y4 : w1.frozen? ⟨w.heap.size, 4, none⟩ = false := ((bcell hbel).2 w.heap.size 4 (by simp)).trans (by simp [go_sem])
  have z5 : w1.cell? ⟨w.heap.size, 5, none⟩ = some (.string ⟨#[]⟩) := ((bcell hbel).1 w.heap.size 5 (by simp)).trans (by simp [go_sem])
  have y5 : w1.frozen? ⟨w.heap.size, 5, none⟩ = false := ((bcell hbel).2 w.heap.size 5 (by simp)).trans (by simp [go_sem])
  have z6 : w1.cell? ⟨w.heap.size, 6, none⟩ = some (.string ⟨#[]⟩) := ((bcell hbel).1 w.heap.size 6 (by simp)).trans (by simp [go_sem])
  have y6 : w1.frozen? ⟨w.heap.size, 6, none⟩ = false := ((bcell hbel).2 w.heap.size 6 (by simp)).trans (by simp [go_sem])
  have z7 : w1.cell? ⟨w.heap.size, 7, none⟩ = some (.bool false) := ((bcell hbel).1 w.heap.size 7 (by simp)).trans (by simp [go_sem])
  have y7 : w1.frozen? ⟨w.heap.size, 7, none⟩ = false := ((bcell hbel).2 w.heap.size 7 (by simp)).trans (by simp [go_sem])
  have z8 : w1.cell? ⟨w.heap.size, 8, none⟩ = some (.bool false) := ((bcell hbel).1 w.heap.size 8 (by simp)).trans (by simp [go_sem])
  have y8 : w1.frozen? ⟨w.heap.size, 8, none⟩ = false := ((bcell hbel).2 w.heap.size 8 (by simp)).trans (by simp [go_sem])
  have z9 : w1.cell? ⟨w.heap.size, 9, none⟩ = some (.int .i64 0) := ((bcell hbel).1 w.heap.size 9 (by simp)).trans (by simp [go_sem])
  have y9 : w1.frozen? ⟨w.heap.size, 9, none⟩ = false := ((bcell hbel).2 w.heap.size 9 (by simp)).trans (by simp [go_sem])
  have hn0 : ¬ b = w.heap.size := by omega
  have hn1 : ¬ w.heap.size = b := by omega
  clear hbel
  clear c0_1 c0_2 c0_3 c0_4 c0_5 c0_6 c0_7 c0_8 c0_9 c1_1 c1_2 c1_3 c1_4 c1_5 c1_6 c1_7 c1_8 c1_9 c2_1 c2_2 c2_3 c2_4 c2_5 c2_6 c2_7 c2_8 c2_9 c3_1 c3_2 c3_3 c3_4 c3_5 c3_6 c3_7 c3_8 c3_9 c4_1 c4_2 c4_3 c4_4 c4_5 c4_6 c4_7 c4_8 c4_9 c5_1 c5_2 c5_3 c5_4 c5_5 c5_6 c5_7 c5_8 c5_9
  go_loop [5] (fun i => ∃ k : Nat, k ≤ 6 ∧ i = .int .i64 k) (fun i => 6 - (intOf i).toNat)
  case atStart => exact ⟨0, by omega, rfl⟩
  case round =>
    obtain ⟨k, hk, rfl⟩ := hrel
    have hcase : k = 0 ∨ k = 1 ∨ k = 2 ∨ k = 3 ∨ k = 4 ∨ k = 5 ∨ k = 6 := by omega
    clear hk
    rcases hcase with rfl | rfl | rfl | rfl | rfl | rfl | rfl
    · go_wp2_with fail
      go_round
      case rel => exact ⟨1, by omega, by rfl⟩
      case measure => simp [intOf]
    · go_wp2_with fail
      go_round
      case rel => exact ⟨2, by omega, by rfl⟩
      case measure => simp [intOf]
    · go_wp2_with fail
      go_round
      case rel => exact ⟨3, by omega, by rfl⟩
      case measure => simp [intOf]
    · go_wp2_with fail
      go_round
      case rel => exact ⟨4, by omega, by rfl⟩
      case measure => simp [intOf]
    · go_wp2_with fail
      go_round
      case rel => exact ⟨5, by omega, by rfl⟩
      case measure => simp [intOf]
    · go_wp2_with fail
      go_round
      case rel => exact ⟨6, by omega, by rfl⟩
      case measure => simp [intOf]
    · go_wp2_with fail
      obtain ⟨W, hW⟩ : ∃ W, W = w1.setCells w.heap.size 0 [.string ⟨#[]⟩, .string ⟨#[]⟩, .string ⟨#[]⟩, .string ⟨#[]⟩, .string ⟨#[]⟩, .string ⟨#[]⟩, .string ⟨#[]⟩, .bool false, .bool false, .int .i64 0] := ⟨_, rfl⟩
      have hWB : Below w.heap.size w W := by rw [hW]; exact (((((((((hB_w1.setCell (p := ⟨w.heap.size, 0, none⟩) (Nat.le_refl _) _).setCell (p := ⟨w.heap.size, 1, none⟩) (Nat.le_refl _) _).setCell (p := ⟨w.heap.size, 2, none⟩) (Nat.le_refl _) _).setCell (p := ⟨w.heap.size, 3, none⟩) (Nat.le_refl _) _).setCell (p := ⟨w.heap.size, 4, none⟩) (Nat.le_refl _) _).setCell (p := ⟨w.heap.size, 5, none⟩) (Nat.le_refl _) _).setCell (p := ⟨w.heap.size, 6, none⟩) (Nat.le_refl _) _).setCell (p := ⟨w.heap.size, 7, none⟩) (Nat.le_refl _) _).setCell (p := ⟨w.heap.size, 8, none⟩) (Nat.le_refl _) _).setCell (p := ⟨w.heap.size, 9, none⟩) (Nat.le_refl _) _
      have hin := World.cell?_setCells_in w.heap.size [.string ⟨#[]⟩, .string ⟨#[]⟩, .string ⟨#[]⟩, .string ⟨#[]⟩, .string ⟨#[]⟩, .string ⟨#[]⟩, .string ⟨#[]⟩, .bool false, .bool false, .int .i64 0] 0 w1 (by intro i hi; match i, hi with | 0, _ => exact Option.isSome_of_eq_some z0 | 1, _ => exact Option.isSome_of_eq_some z1 | 2, _ => exact Option.isSome_of_eq_some z2 | 3, _ => exact Option.isSome_of_eq_some z3 | 4, _ => exact Option.isSome_of_eq_some z4 | 5, _ => exact Option.isSome_of_eq_some z5 | 6, _ => exact Option.isSome_of_eq_some z6 | 7, _ => exact Option.isSome_of_eq_some z7 | 8, _ => exact Option.isSome_of_eq_some z8 | 9, _ => exact Option.isSome_of_eq_some z9 | n + 10, h => exact absurd h (by simp))
      rw [← hW] at hin
      have e0 : W.cell? ⟨w.heap.size, 0, none⟩ = some (.string ⟨#[]⟩) := hin 0 (by simp)
      have e1 : W.cell? ⟨w.heap.size, 1, none⟩ = some (.string ⟨#[]⟩) := hin 1 (by simp)
      have e2 : W.cell? ⟨w.heap.size, 2, none⟩ = some (.string ⟨#[]⟩) := hin 2 (by simp)
      have e3 : W.cell? ⟨w.heap.size, 3, none⟩ = some (.string ⟨#[]⟩) := hin 3 (by simp)
      have e4 : W.cell? ⟨w.heap.size, 4, none⟩ = some (.string ⟨#[]⟩) := hin 4 (by simp)
      have e5 : W.cell? ⟨w.heap.size, 5, none⟩ = some (.string ⟨#[]⟩) := hin 5 (by simp)
      have e6 : W.cell? ⟨w.heap.size, 6, none⟩ = some (.string ⟨#[]⟩) := hin 6 (by simp)
      have e7 : W.cell? ⟨w.heap.size, 7, none⟩ = some (.bool false) := hin 7 (by simp)
      have e8 : W.cell? ⟨w.heap.size, 8, none⟩ = some (.bool false) := hin 8 (by simp)
      have e9 : W.cell? ⟨w.heap.size, 9, none⟩ = some (.int .i64 0) := hin 9 (by simp)
      change bodyPost _ _ _ _ _ (w1.setCells w.heap.size 0 [.string ⟨#[]⟩, .string ⟨#[]⟩, .string ⟨#[]⟩, .string ⟨#[]⟩, .string ⟨#[]⟩, .string ⟨#[]⟩, .string ⟨#[]⟩, .bool false, .bool false, .int .i64 0])
      rw [← hW]
      clear hW hin
      (refine bodyPost_ret (v := .tuple #[RZ, .bool false]) (by simp [results, Tryd.results29, go_sem, RV, RZ, tx, Lc.Loc.second, e0, e1, e2, e3, e4, e5, e6, e7, e8, e9]; done) rfl (RetB.of rfl hWB))
end Go.Proofs.YtcbepojookbceaaDoor
