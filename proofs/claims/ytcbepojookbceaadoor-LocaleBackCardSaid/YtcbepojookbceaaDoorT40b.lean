import Derived.Test.YtcbepojookbceaaDoorT40d
namespace Go.Proofs.YtcbepojookbceaaDoor
set_option linter.all false
open Go.RowKit

set_option maxRecDepth 100000 in
set_option maxHeartbeats 2000000 in
theorem lo_find_fr (w : World) (hv : Vars w) : Calls Tryd.prog 28 #[.string ⟨#[102, 114]⟩] w (FindIs Lc.fr w) := by
  obtain ⟨g1, g2, h3, h4⟩ := hv
  obtain ⟨n0, n1, n2, n3, n4, n5⟩ := h3
  obtain ⟨s0, s1, s2, s3, s4, s5, s6, s7, s8, s9, s10, s11, s12, s13, s14, s15, s16, s17, s18, s19, s20, s21, s22, s23, s24, s25, s26, s27, s28, s29⟩ := h4
  clear n4 n5 s0 s1 s2 s3 s4 s5 s6 s7 s8 s9 s10 s11 s12 s13 s14 s20 s21 s22 s23 s24 s25 s26 s27 s28 s29
  go_enter Tryd.func28, Tryd.ntmps28
  go_wp2_with fail
  go_loop [4, 6, 8] (fun _ i _ => ∃ k : Nat, k ≤ 3 ∧ i = .int .i64 k) (fun _ i _ => 6 - (intOf i).toNat)
  case atStart => exact ⟨0, by omega, rfl⟩
  case round =>
    obtain ⟨k, hk, rfl⟩ := hrel
    have hcase : k = 0 ∨ k = 1 ∨ k = 2 ∨ k = 3 := by omega
    clear hk
    rcases hcase with rfl | rfl | rfl | rfl
    · go_wp2_with fail
      go_round
      case rel => exact ⟨1, by omega, by rfl⟩
      case measure => simp [intOf]
    · go_wp2_with fail
      go_round
      case rel => exact ⟨2, by omega, by rfl⟩
      case measure => simp [intOf]
    · go_wp2_with fail
      go_round
      case rel => exact ⟨3, by omega, by rfl⟩
      case measure => simp [intOf]
    · go_wp2_with fail
      go_region_held3 (fun w' => w'.cell? ⟨1, 15, none⟩ = some (.string ⟨#[44]⟩) ∧ w'.cell? ⟨1, 16, none⟩ = some (.string ⟨#[226, 128, 175]⟩) ∧ w'.cell? ⟨1, 17, none⟩ = some (.string ⟨#[59]⟩) ∧ w'.cell? ⟨1, 18, none⟩ = some (.string ⟨#[45]⟩) ∧ w'.cell? ⟨1, 19, none⟩ = some (.string ⟨#[226, 130, 172]⟩)) (exact ⟨(Below.cell (B := w.heap.size) (w := w) (p := ⟨1, 15, none⟩) (by (repeat (first | exact Below.refl _ _ | assumption | refine Below.setCell ?_ (by first | omega | (simp <;> omega)) _ | refine Below.alloc ?_ (by first | omega | (simp <;> omega)) _ | refine Below.drew ?_ | refine below_drewN' ?_ _))) g2).trans s15, (Below.cell (B := w.heap.size) (w := w) (p := ⟨1, 16, none⟩) (by (repeat (first | exact Below.refl _ _ | assumption | refine Below.setCell ?_ (by first | omega | (simp <;> omega)) _ | refine Below.alloc ?_ (by first | omega | (simp <;> omega)) _ | refine Below.drew ?_ | refine below_drewN' ?_ _))) g2).trans s16, (Below.cell (B := w.heap.size) (w := w) (p := ⟨1, 17, none⟩) (by (repeat (first | exact Below.refl _ _ | assumption | refine Below.setCell ?_ (by first | omega | (simp <;> omega)) _ | refine Below.alloc ?_ (by first | omega | (simp <;> omega)) _ | refine Below.drew ?_ | refine below_drewN' ?_ _))) g2).trans s17, (Below.cell (B := w.heap.size) (w := w) (p := ⟨1, 18, none⟩) (by (repeat (first | exact Below.refl _ _ | assumption | refine Below.setCell ?_ (by first | omega | (simp <;> omega)) _ | refine Below.alloc ?_ (by first | omega | (simp <;> omega)) _ | refine Below.drew ?_ | refine below_drewN' ?_ _))) g2).trans s18, (Below.cell (B := w.heap.size) (w := w) (p := ⟨1, 19, none⟩) (by (repeat (first | exact Below.refl _ _ | assumption | refine Below.setCell ?_ (by first | omega | (simp <;> omega)) _ | refine Below.alloc ?_ (by first | omega | (simp <;> omega)) _ | refine Below.drew ?_ | refine below_drewN' ?_ _))) g2).trans s19⟩) (fail)
      all_goals go_wp2
      all_goals first
        | (refine bodyPost_ret (v := .tuple #[LV (w.heap.size + 1) Lc.fr, .int .i64 0]) ?ret rfl ⟨_, rfl, ?low, ⟨?lt, ?c0, ?c1⟩, ?bel⟩
           case ret => simp [results, Tryd.results28, go_sem, LV, tx, Lc.fr]; done
           case low => omega
           case lt => simp; done
           case c0 => simp [go_sem]; done
           case c1 => simp [Lc.fr, go_sem]; done
           case bel => (repeat (first | exact Below.refl _ _ | assumption | refine Below.setCell ?_ (by first | omega | (simp <;> omega)) _ | refine Below.alloc ?_ (by first | omega | (simp <;> omega)) _ | refine Below.drew ?_ | refine below_drewN' ?_ _)))
        | (refine bodyPost_ret (v := .tuple #[LV (w.heap.size + 1 + 1) Lc.fr, .int .i64 0]) ?ret rfl ⟨_, rfl, ?low, ⟨?lt, ?c0, ?c1⟩, ?bel⟩
           case ret => simp [results, Tryd.results28, go_sem, LV, tx, Lc.fr]; done
           case low => omega
           case lt => simp; done
           case c0 => simp [go_sem]; done
           case c1 => simp [Lc.fr, go_sem]; done
           case bel => (repeat (first | exact Below.refl _ _ | assumption | refine Below.setCell ?_ (by first | omega | (simp <;> omega)) _ | refine Below.alloc ?_ (by first | omega | (simp <;> omega)) _ | refine Below.drew ?_ | refine below_drewN' ?_ _)))
        | (refine bodyPost_ret (v := .tuple #[LV (w.heap.size + 1 + 1 + 1) Lc.fr, .int .i64 0]) ?ret rfl ⟨_, rfl, ?low, ⟨?lt, ?c0, ?c1⟩, ?bel⟩
           case ret => simp [results, Tryd.results28, go_sem, LV, tx, Lc.fr]; done
           case low => omega
           case lt => simp; done
           case c0 => simp [go_sem]; done
           case c1 => simp [Lc.fr, go_sem]; done
           case bel => (repeat (first | exact Below.refl _ _ | assumption | refine Below.setCell ?_ (by first | omega | (simp <;> omega)) _ | refine Below.alloc ?_ (by first | omega | (simp <;> omega)) _ | refine Below.drew ?_ | refine below_drewN' ?_ _)))

set_option maxRecDepth 100000 in
set_option maxHeartbeats 2000000 in
theorem lo_find_hi (w : World) (hv : Vars w) : Calls Tryd.prog 28 #[.string ⟨#[104, 105]⟩] w (FindIs Lc.hi w) := by
  obtain ⟨g1, g2, h3, h4⟩ := hv
  obtain ⟨n0, n1, n2, n3, n4, n5⟩ := h3
  obtain ⟨s0, s1, s2, s3, s4, s5, s6, s7, s8, s9, s10, s11, s12, s13, s14, s15, s16, s17, s18, s19, s20, s21, s22, s23, s24, s25, s26, s27, s28, s29⟩ := h4
  clear n5 s0 s1 s2 s3 s4 s5 s6 s7 s8 s9 s10 s11 s12 s13 s14 s15 s16 s17 s18 s19 s25 s26 s27 s28 s29
  go_enter Tryd.func28, Tryd.ntmps28
  go_wp2_with fail
  go_loop [4, 6, 8] (fun _ i _ => ∃ k : Nat, k ≤ 4 ∧ i = .int .i64 k) (fun _ i _ => 6 - (intOf i).toNat)
  case atStart => exact ⟨0, by omega, rfl⟩
  case round =>
    obtain ⟨k, hk, rfl⟩ := hrel
    have hcase : k = 0 ∨ k = 1 ∨ k = 2 ∨ k = 3 ∨ k = 4 := by omega
    clear hk
    rcases hcase with rfl | rfl | rfl | rfl | rfl
    · go_wp2_with fail
      go_round
      case rel => exact ⟨1, by omega, by rfl⟩
      case measure => simp [intOf]
    · go_wp2_with fail
      go_round
      case rel => exact ⟨2, by omega, by rfl⟩
      case measure => simp [intOf]
    · go_wp2_with fail
      go_round
      case rel => exact ⟨3, by omega, by rfl⟩
      case measure => simp [intOf]
    · go_wp2_with fail
      go_round
      case rel => exact ⟨4, by omega, by rfl⟩
      case measure => simp [intOf]
    · go_wp2_with fail
      go_region_held3 (fun w' => w'.cell? ⟨1, 20, none⟩ = some (.string ⟨#[46]⟩) ∧ w'.cell? ⟨1, 21, none⟩ = some (.string ⟨#[44]⟩) ∧ w'.cell? ⟨1, 22, none⟩ = some (.string ⟨#[44]⟩) ∧ w'.cell? ⟨1, 23, none⟩ = some (.string ⟨#[45]⟩) ∧ w'.cell? ⟨1, 24, none⟩ = some (.string ⟨#[226, 130, 185]⟩)) (exact ⟨(Below.cell (B := w.heap.size) (w := w) (p := ⟨1, 20, none⟩) (by (repeat (first | exact Below.refl _ _ | assumption | refine Below.setCell ?_ (by first | omega | (simp <;> omega)) _ | refine Below.alloc ?_ (by first | omega | (simp <;> omega)) _ | refine Below.drew ?_ | refine below_drewN' ?_ _))) g2).trans s20, (Below.cell (B := w.heap.size) (w := w) (p := ⟨1, 21, none⟩) (by (repeat (first | exact Below.refl _ _ | assumption | refine Below.setCell ?_ (by first | omega | (simp <;> omega)) _ | refine Below.alloc ?_ (by first | omega | (simp <;> omega)) _ | refine Below.drew ?_ | refine below_drewN' ?_ _))) g2).trans s21, (Below.cell (B := w.heap.size) (w := w) (p := ⟨1, 22, none⟩) (by (repeat (first | exact Below.refl _ _ | assumption | refine Below.setCell ?_ (by first | omega | (simp <;> omega)) _ | refine Below.alloc ?_ (by first | omega | (simp <;> omega)) _ | refine Below.drew ?_ | refine below_drewN' ?_ _))) g2).trans s22, (Below.cell (B := w.heap.size) (w := w) (p := ⟨1, 23, none⟩) (by (repeat (first | exact Below.refl _ _ | assumption | refine Below.setCell ?_ (by first | omega | (simp <;> omega)) _ | refine Below.alloc ?_ (by first | omega | (simp <;> omega)) _ | refine Below.drew ?_ | refine below_drewN' ?_ _))) g2).trans s23, (Below.cell (B := w.heap.size) (w := w) (p := ⟨1, 24, none⟩) (by (repeat (first | exact Below.refl _ _ | assumption | refine Below.setCell ?_ (by first | omega | (simp <;> omega)) _ | refine Below.alloc ?_ (by first | omega | (simp <;> omega)) _ | refine Below.drew ?_ | refine below_drewN' ?_ _))) g2).trans s24⟩) (fail)
      all_goals go_wp2
      all_goals first
        | (refine bodyPost_ret (v := .tuple #[LV (w.heap.size + 1) Lc.hi, .int .i64 0]) ?ret rfl ⟨_, rfl, ?low, ⟨?lt, ?c0, ?c1⟩, ?bel⟩
           case ret => simp [results, Tryd.results28, go_sem, LV, tx, Lc.hi]; done
           case low => omega
           case lt => simp; done
           case c0 => simp [go_sem]; done
           case c1 => simp [Lc.hi, go_sem]; done
           case bel => (repeat (first | exact Below.refl _ _ | assumption | refine Below.setCell ?_ (by first | omega | (simp <;> omega)) _ | refine Below.alloc ?_ (by first | omega | (simp <;> omega)) _ | refine Below.drew ?_ | refine below_drewN' ?_ _)))
        | (refine bodyPost_ret (v := .tuple #[LV (w.heap.size + 1 + 1) Lc.hi, .int .i64 0]) ?ret rfl ⟨_, rfl, ?low, ⟨?lt, ?c0, ?c1⟩, ?bel⟩
           case ret => simp [results, Tryd.results28, go_sem, LV, tx, Lc.hi]; done
           case low => omega
           case lt => simp; done
           case c0 => simp [go_sem]; done
           case c1 => simp [Lc.hi, go_sem]; done
           case bel => (repeat (first | exact Below.refl _ _ | assumption | refine Below.setCell ?_ (by first | omega | (simp <;> omega)) _ | refine Below.alloc ?_ (by first | omega | (simp <;> omega)) _ | refine Below.drew ?_ | refine below_drewN' ?_ _)))
        | (refine bodyPost_ret (v := .tuple #[LV (w.heap.size + 1 + 1 + 1) Lc.hi, .int .i64 0]) ?ret rfl ⟨_, rfl, ?low, ⟨?lt, ?c0, ?c1⟩, ?bel⟩
           case ret => simp [results, Tryd.results28, go_sem, LV, tx, Lc.hi]; done
           case low => omega
           case lt => simp; done
           case c0 => simp [go_sem]; done
           case c1 => simp [Lc.hi, go_sem]; done
           case bel => (repeat (first | exact Below.refl _ _ | assumption | refine Below.setCell ?_ (by first | omega | (simp <;> omega)) _ | refine Below.alloc ?_ (by first | omega | (simp <;> omega)) _ | refine Below.drew ?_ | refine below_drewN' ?_ _)))

set_option maxRecDepth 100000 in
set_option maxHeartbeats 2000000 in
theorem lo_find_sv (w : World) (hv : Vars w) : Calls Tryd.prog 28 #[.string ⟨#[115, 118]⟩] w (FindIs Lc.sv w) := by
  obtain ⟨g1, g2, h3, h4⟩ := hv
  obtain ⟨n0, n1, n2, n3, n4, n5⟩ := h3
  obtain ⟨s0, s1, s2, s3, s4, s5, s6, s7, s8, s9, s10, s11, s12, s13, s14, s15, s16, s17, s18, s19, s20, s21, s22, s23, s24, s25, s26, s27, s28, s29⟩ := h4
  clear s0 s1 s2 s3 s4 s5 s6 s7 s8 s9 s10 s11 s12 s13 s14 s15 s16 s17 s18 s19 s20 s21 s22 s23 s24
  go_enter Tryd.func28, Tryd.ntmps28
  go_wp2_with fail
  go_loop [4, 6, 8] (fun _ i _ => ∃ k : Nat, k ≤ 5 ∧ i = .int .i64 k) (fun _ i _ => 6 - (intOf i).toNat)
  case atStart => exact ⟨0, by omega, rfl⟩
  case round =>
    obtain ⟨k, hk, rfl⟩ := hrel
    have hcase : k = 0 ∨ k = 1 ∨ k = 2 ∨ k = 3 ∨ k = 4 ∨ k = 5 := by omega
    clear hk
    rcases hcase with rfl | rfl | rfl | rfl | rfl | rfl
    · go_wp2_with fail
      go_round
      case rel => exact ⟨1, by omega, by rfl⟩
      case measure => simp [intOf]
    · go_wp2_with fail
      go_round
      case rel => exact ⟨2, by omega, by rfl⟩
      case measure => simp [intOf]
    · go_wp2_with fail
      go_round
      case rel => exact ⟨3, by omega, by rfl⟩
      case measure => simp [intOf]
    · go_wp2_with fail
      go_round
      case rel => exact ⟨4, by omega, by rfl⟩
      case measure => simp [intOf]
    · go_wp2_with fail
      go_round
      case rel => exact ⟨5, by omega, by rfl⟩
      case measure => simp [intOf]
    · go_wp2_with fail
      go_region_held3 (fun w' => w'.cell? ⟨1, 25, none⟩ = some (.string ⟨#[44]⟩) ∧ w'.cell? ⟨1, 26, none⟩ = some (.string ⟨#[194, 160]⟩) ∧ w'.cell? ⟨1, 27, none⟩ = some (.string ⟨#[59]⟩) ∧ w'.cell? ⟨1, 28, none⟩ = some (.string ⟨#[226, 136, 146]⟩) ∧ w'.cell? ⟨1, 29, none⟩ = some (.string ⟨#[107, 114]⟩)) (exact ⟨(Below.cell (B := w.heap.size) (w := w) (p := ⟨1, 25, none⟩) (by (repeat (first | exact Below.refl _ _ | assumption | refine Below.setCell ?_ (by first | omega | (simp <;> omega)) _ | refine Below.alloc ?_ (by first | omega | (simp <;> omega)) _ | refine Below.drew ?_ | refine below_drewN' ?_ _))) g2).trans s25, (Below.cell (B := w.heap.size) (w := w) (p := ⟨1, 26, none⟩) (by (repeat (first | exact Below.refl _ _ | assumption | refine Below.setCell ?_ (by first | omega | (simp <;> omega)) _ | refine Below.alloc ?_ (by first | omega | (simp <;> omega)) _ | refine Below.drew ?_ | refine below_drewN' ?_ _))) g2).trans s26, (Below.cell (B := w.heap.size) (w := w) (p := ⟨1, 27, none⟩) (by (repeat (first | exact Below.refl _ _ | assumption | refine Below.setCell ?_ (by first | omega | (simp <;> omega)) _ | refine Below.alloc ?_ (by first | omega | (simp <;> omega)) _ | refine Below.drew ?_ | refine below_drewN' ?_ _))) g2).trans s27, (Below.cell (B := w.heap.size) (w := w) (p := ⟨1, 28, none⟩) (by (repeat (first | exact Below.refl _ _ | assumption | refine Below.setCell ?_ (by first | omega | (simp <;> omega)) _ | refine Below.alloc ?_ (by first | omega | (simp <;> omega)) _ | refine Below.drew ?_ | refine below_drewN' ?_ _))) g2).trans s28, (Below.cell (B := w.heap.size) (w := w) (p := ⟨1, 29, none⟩) (by (repeat (first | exact Below.refl _ _ | assumption | refine Below.setCell ?_ (by first | omega | (simp <;> omega)) _ | refine Below.alloc ?_ (by first | omega | (simp <;> omega)) _ | refine Below.drew ?_ | refine below_drewN' ?_ _))) g2).trans s29⟩) (fail)
      all_goals go_wp2
      all_goals first
        | (refine bodyPost_ret (v := .tuple #[LV (w.heap.size + 1) Lc.sv, .int .i64 0]) ?ret rfl ⟨_, rfl, ?low, ⟨?lt, ?c0, ?c1⟩, ?bel⟩
           case ret => simp [results, Tryd.results28, go_sem, LV, tx, Lc.sv]; done
           case low => omega
           case lt => simp; done
           case c0 => simp [go_sem]; done
           case c1 => simp [Lc.sv, go_sem]; done
           case bel => (repeat (first | exact Below.refl _ _ | assumption | refine Below.setCell ?_ (by first | omega | (simp <;> omega)) _ | refine Below.alloc ?_ (by first | omega | (simp <;> omega)) _ | refine Below.drew ?_ | refine below_drewN' ?_ _)))
        | (refine bodyPost_ret (v := .tuple #[LV (w.heap.size + 1 + 1) Lc.sv, .int .i64 0]) ?ret rfl ⟨_, rfl, ?low, ⟨?lt, ?c0, ?c1⟩, ?bel⟩
           case ret => simp [results, Tryd.results28, go_sem, LV, tx, Lc.sv]; done
           case low => omega
           case lt => simp; done
           case c0 => simp [go_sem]; done
           case c1 => simp [Lc.sv, go_sem]; done
           case bel => (repeat (first | exact Below.refl _ _ | assumption | refine Below.setCell ?_ (by first | omega | (simp <;> omega)) _ | refine Below.alloc ?_ (by first | omega | (simp <;> omega)) _ | refine Below.drew ?_ | refine below_drewN' ?_ _)))
        | (refine bodyPost_ret (v := .tuple #[LV (w.heap.size + 1 + 1 + 1) Lc.sv, .int .i64 0]) ?ret rfl ⟨_, rfl, ?low, ⟨?lt, ?c0, ?c1⟩, ?bel⟩
           case ret => simp [results, Tryd.results28, go_sem, LV, tx, Lc.sv]; done
           case low => omega
           case lt => simp; done
           case c0 => simp [go_sem]; done
           case c1 => simp [Lc.sv, go_sem]; done
           case bel => (repeat (first | exact Below.refl _ _ | assumption | refine Below.setCell ?_ (by first | omega | (simp <;> omega)) _ | refine Below.alloc ?_ (by first | omega | (simp <;> omega)) _ | refine Below.drew ?_ | refine below_drewN' ?_ _)))
end Go.Proofs.YtcbepojookbceaaDoor
