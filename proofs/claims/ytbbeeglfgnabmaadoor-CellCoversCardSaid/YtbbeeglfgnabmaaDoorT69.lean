/- How many cells lie between two, and whether one lies between them, by the program. -/
import Derived.Test.YtbbeeglfgnabmaaDoorT68
import Derived.Test.YtbbeeglfgnabmaaDoorT51
import Derived.Deep.DeepCutAuto
namespace Go.Proofs.YtbbeeglfgnabmaaDoor
set_option linter.all false
open Go.RowKit

theorem mul_bd {x y : Int} (h0 : 0 ≤ x) (h1 : x ≤ 64) (h2 : 0 ≤ y) (h3 : y ≤ 1000) : 0 ≤ x * y ∧ x * y ≤ 64000 := by
  refine ⟨Int.mul_nonneg h0 h2, ?_⟩
  have a := Int.mul_le_mul_of_nonneg_right h1 h2
  omega

set_option maxHeartbeats 1000000 in
theorem ce_area_any (a b : Ce.Rf) (w : World) : Calls Tryd.prog 24 #[rv a, rv b] w (RetB (.int .i64 (Ce.area a b)) w) := by
  have hc := fun W => ce_corners_any a b W
  unfold cornersV at hc
  obtain ⟨v, hv⟩ : ∃ v, v = Ce.area a b := ⟨_, rfl⟩
  rw [← hv]
  cases h : Ce.both a b with
  | false =>
    have he : v = 0 := by rw [hv, Ce.area, h]; rfl
    simp only [h, Bool.false_eq_true, if_false] at hc
    obtain ⟨c, d, x, y⟩ := a
    obtain ⟨c', d', x', y'⟩ := b
    simp only [rv_mk, Ce.zero] at hc ⊢
    have HC := Lib.hid hc; have HE := Lib.hid he; clear hc he hv h
    go_enter Tryd.func24, Tryd.ntmps24
    go_upto_region 2 with (go_at_call 43; (with_reducible refine (HC.out _).mono ?_); rintro e w1 ⟨rfl, hb_w1⟩; have hB_w1 : Below (w).heap.size (w) w1 := Below.trans (by (repeat (first | exact Below.refl _ _ | assumption | refine Below.setCell ?_ (by first | omega | (simp <;> omega)) _ | refine Below.alloc ?_ (by first | omega | (simp <;> omega)) _ | refine Below.drew ?_ | refine below_drewN' ?_ _))) (hb_w1.mono (by first | omega | (simp <;> omega))); obtain ⟨hc_w1, hf_w1⟩ := bcell hb_w1; have hz_w1 := hb_w1.size; (try simp only [size_drew', size_drewN', World.size_alloc, World.size_setCell] at hz_w1); have hl0_w1 : w.heap.size < w1.heap.size := (by omega); have hm0_w1 : w.heap.size ≤ w1.heap.size := (by omega); have hn0_w1 : ¬ w.heap.size = w1.heap.size := (by omega); have hq0_w1 : ¬ w1.heap.size = w.heap.size := (by omega); have hr0_w1 := fun o => hc_w1 (w.heap.size) o (by (try simp only [size_drew', size_drewN', World.size_alloc, World.size_setCell]); omega); have hg0_w1 := fun o => hf_w1 (w.heap.size) o (by (try simp only [size_drew', size_drewN', World.size_alloc, World.size_setCell]); omega); have hl1_w1 : w.heap.size + 1 < w1.heap.size := (by omega); have hm1_w1 : w.heap.size + 1 ≤ w1.heap.size := (by omega); have hn1_w1 : ¬ w.heap.size + 1 = w1.heap.size := (by omega); have hq1_w1 : ¬ w1.heap.size = w.heap.size + 1 := (by omega); have hr1_w1 := fun o => hc_w1 (w.heap.size + 1) o (by (try simp only [size_drew', size_drewN', World.size_alloc, World.size_setCell]); omega); have hg1_w1 := fun o => hf_w1 (w.heap.size + 1) o (by (try simp only [size_drew', size_drewN', World.size_alloc, World.size_setCell]); omega))
    have C1 : Cs w1 (w.heap.size) [.int .i64 c, .int .i64 d, .bool x, .bool y] := ⟨by omega, fun k hk => by match k, hk with | 0, _ => exact (hr0_w1 0).trans (by simp [go_sem]) | 1, _ => exact (hr0_w1 1).trans (by simp [go_sem]) | 2, _ => exact (hr0_w1 2).trans (by simp [go_sem]) | 3, _ => exact (hr0_w1 3).trans (by simp [go_sem]) | n + 4, h => exact absurd h (by simp)⟩
    have C2 : Cs w1 (w.heap.size + 1) [.int .i64 c', .int .i64 d', .bool x', .bool y'] := ⟨by omega, fun k hk => by match k, hk with | 0, _ => exact (hr1_w1 0).trans (by simp [go_sem]) | 1, _ => exact (hr1_w1 1).trans (by simp [go_sem]) | 2, _ => exact (hr1_w1 2).trans (by simp [go_sem]) | 3, _ => exact (hr1_w1 3).trans (by simp [go_sem]) | n + 4, h => exact absurd h (by simp)⟩
    obtain ⟨X, hX⟩ : ∃ X, X = ((w1.setCells (w.heap.size) 0 [.int .i64 0, .int .i64 0, .bool false, .bool false]).setCells (w.heap.size + 1) 0 [.int .i64 0, .int .i64 0, .bool false, .bool false]) := ⟨_, rfl⟩
    change Code.wp _ _ _ _ ((w1.setCells (w.heap.size) 0 [.int .i64 0, .int .i64 0, .bool false, .bool false]).setCells (w.heap.size + 1) 0 [.int .i64 0, .int .i64 0, .bool false, .bool false])
    rw [← hX]
    have D1 : Cs X (w.heap.size) [.int .i64 0, .int .i64 0, .bool false, .bool false] := by rw [hX]; exact (Cs.stored [.int .i64 0, .int .i64 0, .bool false, .bool false] C1 rfl).other _ (by omega)
    have D2 : Cs X (w.heap.size + 1) [.int .i64 0, .int .i64 0, .bool false, .bool false] := by rw [hX]; exact (Cs.stored [.int .i64 0, .int .i64 0, .bool false, .bool false] (C2.other _ (by omega)) rfl)
    have hXB : Below w.heap.size w X := by rw [hX]; exact below_setCells (by omega) _ _ (below_setCells (by omega) _ _ hB_w1)
    have x0 := D1.get 0 rfl
    have x1 := D1.get 1 rfl
    have y0 := D2.get 0 rfl
    have y1 := D2.get 1 rfl
    clear hX C1 C2 D1 D2 hb_w1 hB_w1 hc_w1 hf_w1 hr0_w1 hr1_w1 hg0_w1 hg1_w1
    go_wp2
    go_ret
    exact RetB.of (congrArg (Value.int .i64) HE.out.symm) hXB
  | true =>
    have hbd := Ce.both_bd h
    have he : v = ((Ce.hi a b).col - (Ce.lo a b).col + 1) * ((Ce.hi a b).row - (Ce.lo a b).row + 1) := by rw [hv, Ce.area, h, if_pos rfl, Int.mul_comm]
    simp only [h, if_true] at hc
    have e1 : rv (Ce.lo a b) = .agg #[.int .i64 (Ce.lo a b).col, .int .i64 (Ce.lo a b).row, .bool false, .bool false] := rfl
    have e2 : rv (Ce.hi a b) = .agg #[.int .i64 (Ce.hi a b).col, .int .i64 (Ce.hi a b).row, .bool false, .bool false] := rfl
    rw [e1, e2] at hc
    obtain ⟨m0, hm0⟩ : ∃ m, m = (Ce.lo a b).col := ⟨_, rfl⟩
    obtain ⟨m1, hm1⟩ : ∃ m, m = (Ce.lo a b).row := ⟨_, rfl⟩
    obtain ⟨m2, hm2⟩ : ∃ m, m = (Ce.hi a b).col := ⟨_, rfl⟩
    obtain ⟨m3, hm3⟩ : ∃ m, m = (Ce.hi a b).row := ⟨_, rfl⟩
    rw [← hm0, ← hm1, ← hm2, ← hm3] at hc hbd he
    obtain ⟨c, d, x, y⟩ := a
    obtain ⟨c', d', x', y'⟩ := b
    simp only [rv_mk] at hc ⊢
    obtain ⟨z0, z1, z2, z3, z4, z5⟩ := hbd
    have hmb := mul_bd (x := m2 - m0 + 1) (y := m3 - m1 + 1) (by omega) (by omega) (by omega) (by omega)
    obtain ⟨p0, p1⟩ := hmb
    have HC := Lib.hid hc; have HE := Lib.hid he; clear hc he hv h e1 e2 hm0 hm1 hm2 hm3
    go_enter Tryd.func24, Tryd.ntmps24
    go_upto_region 2 with (go_at_call 43; (with_reducible refine (HC.out _).mono ?_); rintro e w1 ⟨rfl, hb_w1⟩; have hB_w1 : Below (w).heap.size (w) w1 := Below.trans (by (repeat (first | exact Below.refl _ _ | assumption | refine Below.setCell ?_ (by first | omega | (simp <;> omega)) _ | refine Below.alloc ?_ (by first | omega | (simp <;> omega)) _ | refine Below.drew ?_ | refine below_drewN' ?_ _))) (hb_w1.mono (by first | omega | (simp <;> omega))); obtain ⟨hc_w1, hf_w1⟩ := bcell hb_w1; have hz_w1 := hb_w1.size; (try simp only [size_drew', size_drewN', World.size_alloc, World.size_setCell] at hz_w1); have hl0_w1 : w.heap.size < w1.heap.size := (by omega); have hm0_w1 : w.heap.size ≤ w1.heap.size := (by omega); have hn0_w1 : ¬ w.heap.size = w1.heap.size := (by omega); have hq0_w1 : ¬ w1.heap.size = w.heap.size := (by omega); have hr0_w1 := fun o => hc_w1 (w.heap.size) o (by (try simp only [size_drew', size_drewN', World.size_alloc, World.size_setCell]); omega); have hg0_w1 := fun o => hf_w1 (w.heap.size) o (by (try simp only [size_drew', size_drewN', World.size_alloc, World.size_setCell]); omega); have hl1_w1 : w.heap.size + 1 < w1.heap.size := (by omega); have hm1_w1 : w.heap.size + 1 ≤ w1.heap.size := (by omega); have hn1_w1 : ¬ w.heap.size + 1 = w1.heap.size := (by omega); have hq1_w1 : ¬ w1.heap.size = w.heap.size + 1 := (by omega); have hr1_w1 := fun o => hc_w1 (w.heap.size + 1) o (by (try simp only [size_drew', size_drewN', World.size_alloc, World.size_setCell]); omega); have hg1_w1 := fun o => hf_w1 (w.heap.size + 1) o (by (try simp only [size_drew', size_drewN', World.size_alloc, World.size_setCell]); omega))
    have C1 : Cs w1 (w.heap.size) [.int .i64 c, .int .i64 d, .bool x, .bool y] := ⟨by omega, fun k hk => by match k, hk with | 0, _ => exact (hr0_w1 0).trans (by simp [go_sem]) | 1, _ => exact (hr0_w1 1).trans (by simp [go_sem]) | 2, _ => exact (hr0_w1 2).trans (by simp [go_sem]) | 3, _ => exact (hr0_w1 3).trans (by simp [go_sem]) | n + 4, h => exact absurd h (by simp)⟩
    have C2 : Cs w1 (w.heap.size + 1) [.int .i64 c', .int .i64 d', .bool x', .bool y'] := ⟨by omega, fun k hk => by match k, hk with | 0, _ => exact (hr1_w1 0).trans (by simp [go_sem]) | 1, _ => exact (hr1_w1 1).trans (by simp [go_sem]) | 2, _ => exact (hr1_w1 2).trans (by simp [go_sem]) | 3, _ => exact (hr1_w1 3).trans (by simp [go_sem]) | n + 4, h => exact absurd h (by simp)⟩
    obtain ⟨X, hX⟩ : ∃ X, X = ((w1.setCells (w.heap.size) 0 [.int .i64 m0, .int .i64 m1, .bool false, .bool false]).setCells (w.heap.size + 1) 0 [.int .i64 m2, .int .i64 m3, .bool false, .bool false]) := ⟨_, rfl⟩
    change Code.wp _ _ _ _ ((w1.setCells (w.heap.size) 0 [.int .i64 m0, .int .i64 m1, .bool false, .bool false]).setCells (w.heap.size + 1) 0 [.int .i64 m2, .int .i64 m3, .bool false, .bool false])
    rw [← hX]
    have D1 : Cs X (w.heap.size) [.int .i64 m0, .int .i64 m1, .bool false, .bool false] := by rw [hX]; exact (Cs.stored [.int .i64 m0, .int .i64 m1, .bool false, .bool false] C1 rfl).other _ (by omega)
    have D2 : Cs X (w.heap.size + 1) [.int .i64 m2, .int .i64 m3, .bool false, .bool false] := by rw [hX]; exact (Cs.stored [.int .i64 m2, .int .i64 m3, .bool false, .bool false] (C2.other _ (by omega)) rfl)
    have hXB : Below w.heap.size w X := by rw [hX]; exact below_setCells (by omega) _ _ (below_setCells (by omega) _ _ hB_w1)
    have x0 := D1.get 0 rfl
    have x1 := D1.get 1 rfl
    have y0 := D2.get 0 rfl
    have y1 := D2.get 1 rfl
    clear hX C1 C2 D1 D2 hb_w1 hB_w1 hc_w1 hf_w1 hr0_w1 hr1_w1 hg0_w1 hg1_w1
    go_wp2
    go_ret
    exact RetB.of (congrArg (Value.int .i64) HE.out.symm) hXB
end Go.Proofs.YtbbeeglfgnabmaaDoor
