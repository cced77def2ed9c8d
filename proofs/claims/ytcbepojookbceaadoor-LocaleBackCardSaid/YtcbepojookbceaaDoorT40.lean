import Derived.Test.YtcbepojookbceaaDoorT40d
namespace Go.Proofs.YtcbepojookbceaaDoor
set_option linter.all false
open Go.RowKit

set_option maxRecDepth 100000 in
set_option maxHeartbeats 2000000 in
theorem lo_find_ch (w : World) (hv : Vars w) : Calls Tryd.prog 28 #[.string ⟨#[99, 104]⟩] w (FindIs Lc.ch w) := by
  obtain ⟨g1, g2, h3, h4⟩ := hv
  obtain ⟨n0, n1, n2, n3, n4, n5⟩ := h3
  obtain ⟨s0, s1, s2, s3, s4, s5, s6, s7, s8, s9, s10, s11, s12, s13, s14, s15, s16, s17, s18, s19, s20, s21, s22, s23, s24, s25, s26, s27, s28, s29⟩ := h4
  clear n1 n2 n3 n4 n5 s5 s6 s7 s8 s9 s10 s11 s12 s13 s14 s15 s16 s17 s18 s19 s20 s21 s22 s23 s24 s25 s26 s27 s28 s29
  go_enter Tryd.func28, Tryd.ntmps28
  go_wp2_with fail
  go_loop [4, 6, 8] (fun _ i _ => ∃ k : Nat, k ≤ 0 ∧ i = .int .i64 k) (fun _ i _ => 6 - (intOf i).toNat)
  case atStart => exact ⟨0, by omega, rfl⟩
  case round =>
    obtain ⟨k, hk, rfl⟩ := hrel
    have hcase : k = 0 := by omega
    clear hk
    rcases hcase with rfl
    · go_wp2_with fail
      go_region_held3 (fun w' => w'.cell? ⟨1, 0, none⟩ = some (.string ⟨#[46]⟩) ∧ w'.cell? ⟨1, 1, none⟩ = some (.string ⟨#[226, 128, 153]⟩) ∧ w'.cell? ⟨1, 2, none⟩ = some (.string ⟨#[59]⟩) ∧ w'.cell? ⟨1, 3, none⟩ = some (.string ⟨#[45]⟩) ∧ w'.cell? ⟨1, 4, none⟩ = some (.string ⟨#[67, 72, 70]⟩)) (exact ⟨(Below.cell (B := w.heap.size) (w := w) (p := ⟨1, 0, none⟩) (by (repeat (first | exact Below.refl _ _ | assumption | refine Below.setCell ?_ (by first | omega | (simp <;> omega)) _ | refine Below.alloc ?_ (by first | omega | (simp <;> omega)) _ | refine Below.drew ?_ | refine below_drewN' ?_ _))) g2).trans s0, (Below.cell (B := w.heap.size) (w := w) (p := ⟨1, 1, none⟩) (by (repeat (first | exact Below.refl _ _ | assumption | refine Below.setCell ?_ (by first | omega | (simp <;> omega)) _ | refine Below.alloc ?_ (by first | omega | (simp <;> omega)) _ | refine Below.drew ?_ | refine below_drewN' ?_ _))) g2).trans s1, (Below.cell (B := w.heap.size) (w := w) (p := ⟨1, 2, none⟩) (by (repeat (first | exact Below.refl _ _ | assumption | refine Below.setCell ?_ (by first | omega | (simp <;> omega)) _ | refine Below.alloc ?_ (by first | omega | (simp <;> omega)) _ | refine Below.drew ?_ | refine below_drewN' ?_ _))) g2).trans s2, (Below.cell (B := w.heap.size) (w := w) (p := ⟨1, 3, none⟩) (by (repeat (first | exact Below.refl _ _ | assumption | refine Below.setCell ?_ (by first | omega | (simp <;> omega)) _ | refine Below.alloc ?_ (by first | omega | (simp <;> omega)) _ | refine Below.drew ?_ | refine below_drewN' ?_ _))) g2).trans s3, (Below.cell (B := w.heap.size) (w := w) (p := ⟨1, 4, none⟩) (by (repeat (first | exact Below.refl _ _ | assumption | refine Below.setCell ?_ (by first | omega | (simp <;> omega)) _ | refine Below.alloc ?_ (by first | omega | (simp <;> omega)) _ | refine Below.drew ?_ | refine below_drewN' ?_ _))) g2).trans s4⟩) (fail)
      all_goals go_wp2
      all_goals first
        | (refine bodyPost_ret (v := .tuple #[LV (w.heap.size + 1) Lc.ch, .int .i64 0]) ?ret rfl ⟨_, rfl, ?low, ⟨?lt, ?c0, ?c1⟩, ?bel⟩
           case ret => simp [results, Tryd.results28, go_sem, LV, tx, Lc.ch]; done
           case low => omega
           case lt => simp; done
           case c0 => simp [go_sem]; done
           case c1 => simp [Lc.ch, go_sem]; done
           case bel => (repeat (first | exact Below.refl _ _ | assumption | refine Below.setCell ?_ (by first | omega | (simp <;> omega)) _ | refine Below.alloc ?_ (by first | omega | (simp <;> omega)) _ | refine Below.drew ?_ | refine below_drewN' ?_ _)))
        | (refine bodyPost_ret (v := .tuple #[LV (w.heap.size + 1 + 1) Lc.ch, .int .i64 0]) ?ret rfl ⟨_, rfl, ?low, ⟨?lt, ?c0, ?c1⟩, ?bel⟩
           case ret => simp [results, Tryd.results28, go_sem, LV, tx, Lc.ch]; done
           case low => omega
           case lt => simp; done
           case c0 => simp [go_sem]; done
           case c1 => simp [Lc.ch, go_sem]; done
           case bel => (repeat (first | exact Below.refl _ _ | assumption | refine Below.setCell ?_ (by first | omega | (simp <;> omega)) _ | refine Below.alloc ?_ (by first | omega | (simp <;> omega)) _ | refine Below.drew ?_ | refine below_drewN' ?_ _)))
        | (refine bodyPost_ret (v := .tuple #[LV (w.heap.size + 1 + 1 + 1) Lc.ch, .int .i64 0]) ?ret rfl ⟨_, rfl, ?low, ⟨?lt, ?c0, ?c1⟩, ?bel⟩
           case ret => simp [results, Tryd.results28, go_sem, LV, tx, Lc.ch]; done
           case low => omega
           case lt => simp; done
           case c0 => simp [go_sem]; done
           case c1 => simp [Lc.ch, go_sem]; done
           case bel => (repeat (first | exact Below.refl _ _ | assumption | refine Below.setCell ?_ (by first | omega | (simp <;> omega)) _ | refine Below.alloc ?_ (by first | omega | (simp <;> omega)) _ | refine Below.drew ?_ | refine below_drewN' ?_ _)))

set_option maxRecDepth 100000 in
set_option maxHeartbeats 2000000 in
theorem lo_find_de (w : World) (hv : Vars w) : Calls Tryd.prog 28 #[.string ⟨#[100, 101]⟩] w (FindIs Lc.de w) := by
  obtain ⟨g1, g2, h3, h4⟩ := hv
  obtain ⟨n0, n1, n2, n3, n4, n5⟩ := h3
  obtain ⟨s0, s1, s2, s3, s4, s5, s6, s7, s8, s9, s10, s11, s12, s13, s14, s15, s16, s17, s18, s19, s20, s21, s22, s23, s24, s25, s26, s27, s28, s29⟩ := h4
  clear n2 n3 n4 n5 s0 s1 s2 s3 s4 s10 s11 s12 s13 s14 s15 s16 s17 s18 s19 s20 s21 s22 s23 s24 s25 s26 s27 s28 s29
  go_enter Tryd.func28, Tryd.ntmps28
  go_wp2_with fail
  go_loop [4, 6, 8] (fun _ i _ => ∃ k : Nat, k ≤ 1 ∧ i = .int .i64 k) (fun _ i _ => 6 - (intOf i).toNat)
  case atStart => exact ⟨0, by omega, rfl⟩
  case round =>
    obtain ⟨k, hk, rfl⟩ := hrel
    have hcase : k = 0 ∨ k = 1 := by omega
    clear hk
    rcases hcase with rfl | rfl
    · go_wp2_with fail
      go_round
      case rel => exact ⟨1, by omega, by rfl⟩
      case measure => simp [intOf]
    · go_wp2_with fail
      go_region_held3 (fun w' => w'.cell? ⟨1, 5, none⟩ = some (.string ⟨#[44]⟩) ∧ w'.cell? ⟨1, 6, none⟩ = some (.string ⟨#[46]⟩) ∧ w'.cell? ⟨1, 7, none⟩ = some (.string ⟨#[59]⟩) ∧ w'.cell? ⟨1, 8, none⟩ = some (.string ⟨#[45]⟩) ∧ w'.cell? ⟨1, 9, none⟩ = some (.string ⟨#[226, 130, 172]⟩)) (exact ⟨(Below.cell (B := w.heap.size) (w := w) (p := ⟨1, 5, none⟩) (by (repeat (first | exact Below.refl _ _ | assumption | refine Below.setCell ?_ (by first | omega | (simp <;> omega)) _ | refine Below.alloc ?_ (by first | omega | (simp <;> omega)) _ | refine Below.drew ?_ | refine below_drewN' ?_ _))) g2).trans s5, (Below.cell (B := w.heap.size) (w := w) (p := ⟨1, 6, none⟩) (by (repeat (first | exact Below.refl _ _ | assumption | refine Below.setCell ?_ (by first | omega | (simp <;> omega)) _ | refine Below.alloc ?_ (by first | omega | (simp <;> omega)) _ | refine Below.drew ?_ | refine below_drewN' ?_ _))) g2).trans s6, (Below.cell (B := w.heap.size) (w := w) (p := ⟨1, 7, none⟩) (by (repeat (first | exact Below.refl _ _ | assumption | refine Below.setCell ?_ (by first | omega | (simp <;> omega)) _ | refine Below.alloc ?_ (by first | omega | (simp <;> omega)) _ | refine Below.drew ?_ | refine below_drewN' ?_ _))) g2).trans s7, (Below.cell (B := w.heap.size) (w := w) (p := ⟨1, 8, none⟩) (by (repeat (first | exact Below.refl _ _ | assumption | refine Below.setCell ?_ (by first | omega | (simp <;> omega)) _ | refine Below.alloc ?_ (by first | omega | (simp <;> omega)) _ | refine Below.drew ?_ | refine below_drewN' ?_ _))) g2).trans s8, (Below.cell (B := w.heap.size) (w := w) (p := ⟨1, 9, none⟩) (by (repeat (first | exact Below.refl _ _ | assumption | refine Below.setCell ?_ (by first | omega | (simp <;> omega)) _ | refine Below.alloc ?_ (by first | omega | (simp <;> omega)) _ | refine Below.drew ?_ | refine below_drewN' ?_ _))) g2).trans s9⟩) (fail)
      all_goals go_wp2
      all_goals first
        | (refine bodyPost_ret (v := .tuple #[LV (w.heap.size + 1) Lc.de, .int .i64 0]) ?ret rfl ⟨_, rfl, ?low, ⟨?lt, ?c0, ?c1⟩, ?bel⟩
           case ret => simp [results, Tryd.results28, go_sem, LV, tx, Lc.de]; done
           case low => omega
           case lt => simp; done
           case c0 => simp [go_sem]; done
           case c1 => simp [Lc.de, go_sem]; done
           case bel => (repeat (first | exact Below.refl _ _ | assumption | refine Below.setCell ?_ (by first | omega | (simp <;> omega)) _ | refine Below.alloc ?_ (by first | omega | (simp <;> omega)) _ | refine Below.drew ?_ | refine below_drewN' ?_ _)))
        | (refine bodyPost_ret (v := .tuple #[LV (w.heap.size + 1 + 1) Lc.de, .int .i64 0]) ?ret rfl ⟨_, rfl, ?low, ⟨?lt, ?c0, ?c1⟩, ?bel⟩
           case ret => simp [results, Tryd.results28, go_sem, LV, tx, Lc.de]; done
           case low => omega
           case lt => simp; done
           case c0 => simp [go_sem]; done
           case c1 => simp [Lc.de, go_sem]; done
           case bel => (repeat (first | exact Below.refl _ _ | assumption | refine Below.setCell ?_ (by first | omega | (simp <;> omega)) _ | refine Below.alloc ?_ (by first | omega | (simp <;> omega)) _ | refine Below.drew ?_ | refine below_drewN' ?_ _)))
        | (refine bodyPost_ret (v := .tuple #[LV (w.heap.size + 1 + 1 + 1) Lc.de, .int .i64 0]) ?ret rfl ⟨_, rfl, ?low, ⟨?lt, ?c0, ?c1⟩, ?bel⟩
           case ret => simp [results, Tryd.results28, go_sem, LV, tx, Lc.de]; done
           case low => omega
           case lt => simp; done
           case c0 => simp [go_sem]; done
           case c1 => simp [Lc.de, go_sem]; done
           case bel => (repeat (first | exact Below.refl _ _ | assumption | refine Below.setCell ?_ (by first | omega | (simp <;> omega)) _ | refine Below.alloc ?_ (by first | omega | (simp <;> omega)) _ | refine Below.drew ?_ | refine below_drewN' ?_ _)))

set_option maxRecDepth 100000 in
set_option maxHeartbeats 2000000 in
theorem lo_find_en (w : World) (hv : Vars w) : Calls Tryd.prog 28 #[.string ⟨#[101, 110]⟩] w (FindIs Lc.en w) := by
  obtain ⟨g1, g2, h3, h4⟩ := hv
  obtain ⟨n0, n1, n2, n3, n4, n5⟩ := h3
  obtain ⟨s0, s1, s2, s3, s4, s5, s6, s7, s8, s9, s10, s11, s12, s13, s14, s15, s16, s17, s18, s19, s20, s21, s22, s23, s24, s25, s26, s27, s28, s29⟩ := h4
  clear n3 n4 n5 s0 s1 s2 s3 s4 s5 s6 s7 s8 s9 s15 s16 s17 s18 s19 s20 s21 s22 s23 s24 s25 s26 s27 s28 s29
  go_enter Tryd.func28, Tryd.ntmps28
  go_wp2_with fail
  go_loop [4, 6, 8] (fun _ i _ => ∃ k : Nat, k ≤ 2 ∧ i = .int .i64 k) (fun _ i _ => 6 - (intOf i).toNat)
  case atStart => exact ⟨0, by omega, rfl⟩
  case round =>
    obtain ⟨k, hk, rfl⟩ := hrel
    have hcase : k = 0 ∨ k = 1 ∨ k = 2 := by omega
    clear hk
    rcases hcase with rfl | rfl | rfl
    · go_wp2_with fail
      go_round
      case rel => exact ⟨1, by omega, by rfl⟩
      case measure => simp [intOf]
    · go_wp2_with fail
      go_round
      case rel => exact ⟨2, by omega, by rfl⟩
      case measure => simp [intOf]
    · go_wp2_with fail
      go_region_held3 (fun w' => w'.cell? ⟨1, 10, none⟩ = some (.string ⟨#[46]⟩) ∧ w'.cell? ⟨1, 11, none⟩ = some (.string ⟨#[44]⟩) ∧ w'.cell? ⟨1, 12, none⟩ = some (.string ⟨#[44]⟩) ∧ w'.cell? ⟨1, 13, none⟩ = some (.string ⟨#[45]⟩) ∧ w'.cell? ⟨1, 14, none⟩ = some (.string ⟨#[36]⟩)) (exact ⟨(Below.cell (B := w.heap.size) (w := w) (p := ⟨1, 10, none⟩) (by (repeat (first | exact Below.refl _ _ | assumption | refine Below.setCell ?_ (by first | omega | (simp <;> omega)) _ | refine Below.alloc ?_ (by first | omega | (simp <;> omega)) _ | refine Below.drew ?_ | refine below_drewN' ?_ _))) g2).trans s10, (Below.cell (B := w.heap.size) (w := w) (p := ⟨1, 11, none⟩) (by (repeat (first | exact Below.refl _ _ | assumption | refine Below.setCell ?_ (by first | omega | (simp <;> omega)) _ | refine Below.alloc ?_ (by first | omega | (simp <;> omega)) _ | refine Below.drew ?_ | refine below_drewN' ?_ _))) g2).trans s11, (Below.cell (B := w.heap.size) (w := w) (p := ⟨1, 12, none⟩) (by (repeat (first | exact Below.refl _ _ | assumption | refine Below.setCell ?_ (by first | omega | (simp <;> omega)) _ | refine Below.alloc ?_ (by first | omega | (simp <;> omega)) _ | refine Below.drew ?_ | refine below_drewN' ?_ _))) g2).trans s12, (Below.cell (B := w.heap.size) (w := w) (p := ⟨1, 13, none⟩) (by (repeat (first | exact Below.refl _ _ | assumption | refine Below.setCell ?_ (by first | omega | (simp <;> omega)) _ | refine Below.alloc ?_ (by first | omega | (simp <;> omega)) _ | refine Below.drew ?_ | refine below_drewN' ?_ _))) g2).trans s13, (Below.cell (B := w.heap.size) (w := w) (p := ⟨1, 14, none⟩) (by (repeat (first | exact Below.refl _ _ | assumption | refine Below.setCell ?_ (by first | omega | (simp <;> omega)) _ | refine Below.alloc ?_ (by first | omega | (simp <;> omega)) _ | refine Below.drew ?_ | refine below_drewN' ?_ _))) g2).trans s14⟩) (fail)
      all_goals go_wp2
      all_goals first
        | (refine bodyPost_ret (v := .tuple #[LV (w.heap.size + 1) Lc.en, .int .i64 0]) ?ret rfl ⟨_, rfl, ?low, ⟨?lt, ?c0, ?c1⟩, ?bel⟩
           case ret => simp [results, Tryd.results28, go_sem, LV, tx, Lc.en]; done
           case low => omega
           case lt => simp; done
           case c0 => simp [go_sem]; done
           case c1 => simp [Lc.en, go_sem]; done
           case bel => (repeat (first | exact Below.refl _ _ | assumption | refine Below.setCell ?_ (by first | omega | (simp <;> omega)) _ | refine Below.alloc ?_ (by first | omega | (simp <;> omega)) _ | refine Below.drew ?_ | refine below_drewN' ?_ _)))
        | (refine bodyPost_ret (v := .tuple #[LV (w.heap.size + 1 + 1) Lc.en, .int .i64 0]) ?ret rfl ⟨_, rfl, ?low, ⟨?lt, ?c0, ?c1⟩, ?bel⟩
           case ret => simp [results, Tryd.results28, go_sem, LV, tx, Lc.en]; done
           case low => omega
           case lt => simp; done
           case c0 => simp [go_sem]; done
           case c1 => simp [Lc.en, go_sem]; done
           case bel => (repeat (first | exact Below.refl _ _ | assumption | refine Below.setCell ?_ (by first | omega | (simp <;> omega)) _ | refine Below.alloc ?_ (by first | omega | (simp <;> omega)) _ | refine Below.drew ?_ | refine below_drewN' ?_ _)))
        | (refine bodyPost_ret (v := .tuple #[LV (w.heap.size + 1 + 1 + 1) Lc.en, .int .i64 0]) ?ret rfl ⟨_, rfl, ?low, ⟨?lt, ?c0, ?c1⟩, ?bel⟩
           case ret => simp [results, Tryd.results28, go_sem, LV, tx, Lc.en]; done
           case low => omega
           case lt => simp; done
           case c0 => simp [go_sem]; done
           case c1 => simp [Lc.en, go_sem]; done
           case bel => (repeat (first | exact Below.refl _ _ | assumption | refine Below.setCell ?_ (by first | omega | (simp <;> omega)) _ | refine Below.alloc ?_ (by first | omega | (simp <;> omega)) _ | refine Below.drew ?_ | refine below_drewN' ?_ _)))
end Go.Proofs.YtcbepojookbceaaDoor
