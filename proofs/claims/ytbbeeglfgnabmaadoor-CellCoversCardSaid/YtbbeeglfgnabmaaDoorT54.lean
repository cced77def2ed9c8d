/- The corners of an area, by the program. -/
import Derived.Test.YtbbeeglfgnabmaaDoorT50
import Derived.Test.YtbbeeglfgnabmaaDoorCell2
import Derived.Test.YtbbeeglfgnabmaaDoorCells
import Derived.RegionTactic
import Derived.BigRegion
import Derived.ChangeAlike
import Derived.Deep.RegionHeld3
namespace Go.Proofs.YtbbeeglfgnabmaaDoor
set_option linter.all false
open Go.RowKit

theorem far_cells (W : World) (B b k : Nat) (vs : List Value) (h : b ≠ B) : (W.setCells B 0 vs).cell? ⟨b, k, none⟩ = W.cell? ⟨b, k, none⟩ :=
  World.cell?_setCells_out B vs 0 W ⟨b, k, none⟩ (fun e => absurd e h)
def cornersV (a b : Ce.Rf) : Value := if Ce.both a b then .tuple #[rv (Ce.lo a b), rv (Ce.hi a b), .bool true] else .tuple #[rv Ce.zero, rv Ce.zero, .bool false]

set_option maxHeartbeats 1000000 in
theorem ce_corners_n1 (c d : Int) (a b : Bool) (c' d' : Int) (a' b' : Bool) (w : World) (h : Ce.right ⟨c, d, a, b⟩ = false) :
    Calls Tryd.prog 43 #[.agg #[.int .i64 c, .int .i64 d, .bool a, .bool b], .agg #[.int .i64 c', .int .i64 d', .bool a', .bool b']] w (RetB (.tuple #[.agg #[.int .i64 0, .int .i64 0, .bool false, .bool false], .agg #[.int .i64 0, .int .i64 0, .bool false, .bool false], .bool false]) w) := by
  have hr := fun w => ce_right_any c d a b w
  rw [h] at hr
  have HR := Lib.hid hr; clear hr h
  have tok1 : True := trivial
  go_enter Tryd.func43, Tryd.ntmps43
  go_wp2_with (first
    | (clear tok1; (go_at_call 12; (with_reducible refine (HR.out _).mono ?_); rintro e w1 ⟨rfl, hb_w1⟩; have hB_w1 : Below (w).heap.size (w) w1 := Below.trans (by (repeat (first | exact Below.refl _ _ | assumption | refine Below.setCell ?_ (by first | omega | (simp <;> omega)) _ | refine Below.alloc ?_ (by first | omega | (simp <;> omega)) _ | refine Below.drew ?_ | refine below_drewN' ?_ _))) (hb_w1.mono (by first | omega | (simp <;> omega))); obtain ⟨hc_w1, hf_w1⟩ := bcell hb_w1; have hz_w1 := hb_w1.size; (try simp only [size_drew', size_drewN', World.size_alloc, World.size_setCell] at hz_w1); have hl0_w1 : w.heap.size < w1.heap.size := (by omega); have hm0_w1 : w.heap.size ≤ w1.heap.size := (by omega); have hn0_w1 : ¬ w.heap.size = w1.heap.size := (by omega); have hq0_w1 : ¬ w1.heap.size = w.heap.size := (by omega); have hr0_w1 := fun o => hc_w1 (w.heap.size) o (by (try simp only [size_drew', size_drewN', World.size_alloc, World.size_setCell]); omega); have hg0_w1 := fun o => hf_w1 (w.heap.size) o (by (try simp only [size_drew', size_drewN', World.size_alloc, World.size_setCell]); omega); have hl1_w1 : w.heap.size + 1 < w1.heap.size := (by omega); have hm1_w1 : w.heap.size + 1 ≤ w1.heap.size := (by omega); have hn1_w1 : ¬ w.heap.size + 1 = w1.heap.size := (by omega); have hq1_w1 : ¬ w1.heap.size = w.heap.size + 1 := (by omega); have hr1_w1 := fun o => hc_w1 (w.heap.size + 1) o (by (try simp only [size_drew', size_drewN', World.size_alloc, World.size_setCell]); omega); have hg1_w1 := fun o => hf_w1 (w.heap.size + 1) o (by (try simp only [size_drew', size_drewN', World.size_alloc, World.size_setCell]); omega); have hl2_w1 : w.heap.size + 1 + 1 < w1.heap.size := (by omega); have hm2_w1 : w.heap.size + 1 + 1 ≤ w1.heap.size := (by omega); have hn2_w1 : ¬ w.heap.size + 1 + 1 = w1.heap.size := (by omega); have hq2_w1 : ¬ w1.heap.size = w.heap.size + 1 + 1 := (by omega); have hr2_w1 := fun o => hc_w1 (w.heap.size + 1 + 1) o (by (try simp only [size_drew', size_drewN', World.size_alloc, World.size_setCell]); omega); have hg2_w1 := fun o => hf_w1 (w.heap.size + 1 + 1) o (by (try simp only [size_drew', size_drewN', World.size_alloc, World.size_setCell]); omega); have hl3_w1 : w.heap.size + 1 + 1 + 1 < w1.heap.size := (by omega); have hm3_w1 : w.heap.size + 1 + 1 + 1 ≤ w1.heap.size := (by omega); have hn3_w1 : ¬ w.heap.size + 1 + 1 + 1 = w1.heap.size := (by omega); have hq3_w1 : ¬ w1.heap.size = w.heap.size + 1 + 1 + 1 := (by omega); have hr3_w1 := fun o => hc_w1 (w.heap.size + 1 + 1 + 1) o (by (try simp only [size_drew', size_drewN', World.size_alloc, World.size_setCell]); omega); have hg3_w1 := fun o => hf_w1 (w.heap.size + 1 + 1 + 1) o (by (try simp only [size_drew', size_drewN', World.size_alloc, World.size_setCell]); omega))))
  have p0 : w1.cell? ⟨w.heap.size, 0, none⟩ = some (.int .i64 c) := (hr0_w1 0).trans (by simp [go_sem])
  have p1 : w1.cell? ⟨w.heap.size, 1, none⟩ = some (.int .i64 d) := (hr0_w1 1).trans (by simp [go_sem])
  have p2 : w1.cell? ⟨w.heap.size, 2, none⟩ = some (.bool a) := (hr0_w1 2).trans (by simp [go_sem])
  have p3 : w1.cell? ⟨w.heap.size, 3, none⟩ = some (.bool b) := (hr0_w1 3).trans (by simp [go_sem])
  have q0 : w1.cell? ⟨w.heap.size + 1, 0, none⟩ = some (.int .i64 c') := (hr1_w1 0).trans (by simp [go_sem])
  have q1 : w1.cell? ⟨w.heap.size + 1, 1, none⟩ = some (.int .i64 d') := (hr1_w1 1).trans (by simp [go_sem])
  have q2 : w1.cell? ⟨w.heap.size + 1, 2, none⟩ = some (.bool a') := (hr1_w1 2).trans (by simp [go_sem])
  have q3 : w1.cell? ⟨w.heap.size + 1, 3, none⟩ = some (.bool b') := (hr1_w1 3).trans (by simp [go_sem])
  have r0 : w1.cell? ⟨w.heap.size + 1 + 1, 0, none⟩ = some (.int .i64 0) := (hr2_w1 0).trans (by simp [go_sem])
  have fr0 : w1.frozen? ⟨w.heap.size + 1 + 1, 0, none⟩ = false := (hg2_w1 0).trans (by simp [go_sem])
  have r1 : w1.cell? ⟨w.heap.size + 1 + 1, 1, none⟩ = some (.int .i64 0) := (hr2_w1 1).trans (by simp [go_sem])
  have fr1 : w1.frozen? ⟨w.heap.size + 1 + 1, 1, none⟩ = false := (hg2_w1 1).trans (by simp [go_sem])
  have r2 : w1.cell? ⟨w.heap.size + 1 + 1, 2, none⟩ = some (.bool false) := (hr2_w1 2).trans (by simp [go_sem])
  have fr2 : w1.frozen? ⟨w.heap.size + 1 + 1, 2, none⟩ = false := (hg2_w1 2).trans (by simp [go_sem])
  have r3 : w1.cell? ⟨w.heap.size + 1 + 1, 3, none⟩ = some (.bool false) := (hr2_w1 3).trans (by simp [go_sem])
  have fr3 : w1.frozen? ⟨w.heap.size + 1 + 1, 3, none⟩ = false := (hg2_w1 3).trans (by simp [go_sem])
  have s0 : w1.cell? ⟨w.heap.size + 1 + 1 + 1, 0, none⟩ = some (.int .i64 0) := (hr3_w1 0).trans (by simp [go_sem])
  have fs0 : w1.frozen? ⟨w.heap.size + 1 + 1 + 1, 0, none⟩ = false := (hg3_w1 0).trans (by simp [go_sem])
  have s1 : w1.cell? ⟨w.heap.size + 1 + 1 + 1, 1, none⟩ = some (.int .i64 0) := (hr3_w1 1).trans (by simp [go_sem])
  have fs1 : w1.frozen? ⟨w.heap.size + 1 + 1 + 1, 1, none⟩ = false := (hg3_w1 1).trans (by simp [go_sem])
  have s2 : w1.cell? ⟨w.heap.size + 1 + 1 + 1, 2, none⟩ = some (.bool false) := (hr3_w1 2).trans (by simp [go_sem])
  have fs2 : w1.frozen? ⟨w.heap.size + 1 + 1 + 1, 2, none⟩ = false := (hg3_w1 2).trans (by simp [go_sem])
  have s3 : w1.cell? ⟨w.heap.size + 1 + 1 + 1, 3, none⟩ = some (.bool false) := (hr3_w1 3).trans (by simp [go_sem])
  have fs3 : w1.frozen? ⟨w.heap.size + 1 + 1 + 1, 3, none⟩ = false := (hg3_w1 3).trans (by simp [go_sem])
  have HB := Lib.hid hB_w1
  have hzz := hB_w1.size
  clear hb_w1 hB_w1 hc_w1 hf_w1 hr0_w1 hr1_w1 hr2_w1 hr3_w1 hg0_w1 hg1_w1 hg2_w1 hg3_w1
  go_wp2
  obtain ⟨X, hX⟩ : ∃ X, X = ((w1.setCells (w.heap.size + 1 + 1) 0 [.int .i64 0, .int .i64 0, .bool false, .bool false]).setCells (w.heap.size + 1 + 1 + 1) 0 [.int .i64 0, .int .i64 0, .bool false, .bool false]) := ⟨_, rfl⟩
  change bodyPost _ _ _ _ _ ((w1.setCells (w.heap.size + 1 + 1) 0 [.int .i64 0, .int .i64 0, .bool false, .bool false]).setCells (w.heap.size + 1 + 1 + 1) 0 [.int .i64 0, .int .i64 0, .bool false, .bool false])
  rw [← hX]
  have C1 : Cs w1 (w.heap.size + 1 + 1) [.int .i64 0, .int .i64 0, .bool false, .bool false] := ⟨by omega, fun k hk => by match k, hk with | 0, _ => exact r0 | 1, _ => exact r1 | 2, _ => exact r2 | 3, _ => exact r3 | n + 4, h => exact absurd h (by simp)⟩
  have C2 : Cs w1 (w.heap.size + 1 + 1 + 1) [.int .i64 0, .int .i64 0, .bool false, .bool false] := ⟨by omega, fun k hk => by match k, hk with | 0, _ => exact s0 | 1, _ => exact s1 | 2, _ => exact s2 | 3, _ => exact s3 | n + 4, h => exact absurd h (by simp)⟩
  have D1 : Cs X (w.heap.size + 1 + 1) [.int .i64 0, .int .i64 0, .bool false, .bool false] := by rw [hX]; exact ((C1.stored _ rfl).other _ (by omega))
  have D2 : Cs X (w.heap.size + 1 + 1 + 1) [.int .i64 0, .int .i64 0, .bool false, .bool false] := by rw [hX]; exact ((C2.other _ (by omega)).stored _ rfl)
  have x0 := D1.get 0 rfl
  have y0 := D2.get 0 rfl
  have x1 := D1.get 1 rfl
  have y1 := D2.get 1 rfl
  have x2 := D1.get 2 rfl
  have y2 := D2.get 2 rfl
  have x3 := D1.get 3 rfl
  have y3 := D2.get 3 rfl
  have hXB : Below w.heap.size w X := by rw [hX]; exact (below_setCells (by omega) _ _ (below_setCells (by omega) _ _ HB.out))
  clear hX C1 C2 D1 D2 r0 s0 fr0 fs0 r1 s1 fr1 fs1 r2 s2 fr2 fs2 r3 s3 fr3 fs3
  (refine bodyPost_ret (v := .tuple #[.agg #[.int .i64 0, .int .i64 0, .bool false, .bool false], .agg #[.int .i64 0, .int .i64 0, .bool false, .bool false], .bool false]) (by simp [results, Tryd.results43, go_sem, x0, x1, x2, x3, y0, y1, y2, y3]; done) rfl (RetB.of rfl hXB))

set_option maxHeartbeats 1000000 in
theorem ce_corners_n2 (c d : Int) (a b : Bool) (c' d' : Int) (a' b' : Bool) (w : World) (h : Ce.right ⟨c, d, a, b⟩ = true) (h' : Ce.right ⟨c', d', a', b'⟩ = false) :
    Calls Tryd.prog 43 #[.agg #[.int .i64 c, .int .i64 d, .bool a, .bool b], .agg #[.int .i64 c', .int .i64 d', .bool a', .bool b']] w (RetB (.tuple #[.agg #[.int .i64 0, .int .i64 0, .bool false, .bool false], .agg #[.int .i64 0, .int .i64 0, .bool false, .bool false], .bool false]) w) := by
  have hr := fun w => ce_right_any c d a b w
  rw [h] at hr
  have HR := Lib.hid hr; clear hr h
  have hs := fun w => ce_right_any c' d' a' b' w
  rw [h'] at hs
  have HS := Lib.hid hs; clear hs h'
  have tok1 : True := trivial
  go_enter Tryd.func43, Tryd.ntmps43
  go_wp2_with (first
    | (clear tok1; (go_at_call 12; (with_reducible refine (HR.out _).mono ?_); rintro e w1 ⟨rfl, hb_w1⟩; have hB_w1 : Below (w).heap.size (w) w1 := Below.trans (by (repeat (first | exact Below.refl _ _ | assumption | refine Below.setCell ?_ (by first | omega | (simp <;> omega)) _ | refine Below.alloc ?_ (by first | omega | (simp <;> omega)) _ | refine Below.drew ?_ | refine below_drewN' ?_ _))) (hb_w1.mono (by first | omega | (simp <;> omega))); obtain ⟨hc_w1, hf_w1⟩ := bcell hb_w1; have hz_w1 := hb_w1.size; (try simp only [size_drew', size_drewN', World.size_alloc, World.size_setCell] at hz_w1); have hl0_w1 : w.heap.size < w1.heap.size := (by omega); have hm0_w1 : w.heap.size ≤ w1.heap.size := (by omega); have hn0_w1 : ¬ w.heap.size = w1.heap.size := (by omega); have hq0_w1 : ¬ w1.heap.size = w.heap.size := (by omega); have hr0_w1 := fun o => hc_w1 (w.heap.size) o (by (try simp only [size_drew', size_drewN', World.size_alloc, World.size_setCell]); omega); have hg0_w1 := fun o => hf_w1 (w.heap.size) o (by (try simp only [size_drew', size_drewN', World.size_alloc, World.size_setCell]); omega); have hl1_w1 : w.heap.size + 1 < w1.heap.size := (by omega); have hm1_w1 : w.heap.size + 1 ≤ w1.heap.size := (by omega); have hn1_w1 : ¬ w.heap.size + 1 = w1.heap.size := (by omega); have hq1_w1 : ¬ w1.heap.size = w.heap.size + 1 := (by omega); have hr1_w1 := fun o => hc_w1 (w.heap.size + 1) o (by (try simp only [size_drew', size_drewN', World.size_alloc, World.size_setCell]); omega); have hg1_w1 := fun o => hf_w1 (w.heap.size + 1) o (by (try simp only [size_drew', size_drewN', World.size_alloc, World.size_setCell]); omega); have hl2_w1 : w.heap.size + 1 + 1 < w1.heap.size := (by omega); have hm2_w1 : w.heap.size + 1 + 1 ≤ w1.heap.size := (by omega); have hn2_w1 : ¬ w.heap.size + 1 + 1 = w1.heap.size := (by omega); have hq2_w1 : ¬ w1.heap.size = w.heap.size + 1 + 1 := (by omega); have hr2_w1 := fun o => hc_w1 (w.heap.size + 1 + 1) o (by (try simp only [size_drew', size_drewN', World.size_alloc, World.size_setCell]); omega); have hg2_w1 := fun o => hf_w1 (w.heap.size + 1 + 1) o (by (try simp only [size_drew', size_drewN', World.size_alloc, World.size_setCell]); omega); have hl3_w1 : w.heap.size + 1 + 1 + 1 < w1.heap.size := (by omega); have hm3_w1 : w.heap.size + 1 + 1 + 1 ≤ w1.heap.size := (by omega); have hn3_w1 : ¬ w.heap.size + 1 + 1 + 1 = w1.heap.size := (by omega); have hq3_w1 : ¬ w1.heap.size = w.heap.size + 1 + 1 + 1 := (by omega); have hr3_w1 := fun o => hc_w1 (w.heap.size + 1 + 1 + 1) o (by (try simp only [size_drew', size_drewN', World.size_alloc, World.size_setCell]); omega); have hg3_w1 := fun o => hf_w1 (w.heap.size + 1 + 1 + 1) o (by (try simp only [size_drew', size_drewN', World.size_alloc, World.size_setCell]); omega)))
    | (go_at_call 12; (with_reducible refine (HS.out _).mono ?_); rintro e w2 ⟨rfl, hb_w2⟩; have hB_w2 : Below (w).heap.size (w) w2 := Below.trans (by (repeat (first | exact Below.refl _ _ | assumption | refine Below.setCell ?_ (by first | omega | (simp <;> omega)) _ | refine Below.alloc ?_ (by first | omega | (simp <;> omega)) _ | refine Below.drew ?_ | refine below_drewN' ?_ _))) (hb_w2.mono (by first | omega | (simp <;> omega))); obtain ⟨hc_w2, hf_w2⟩ := bcell hb_w2; have hz_w2 := hb_w2.size; (try simp only [size_drew', size_drewN', World.size_alloc, World.size_setCell] at hz_w2); have hl0_w2 : w.heap.size < w2.heap.size := (by omega); have hm0_w2 : w.heap.size ≤ w2.heap.size := (by omega); have hn0_w2 : ¬ w.heap.size = w2.heap.size := (by omega); have hq0_w2 : ¬ w2.heap.size = w.heap.size := (by omega); have hr0_w2 := fun o => hc_w2 (w.heap.size) o (by (try simp only [size_drew', size_drewN', World.size_alloc, World.size_setCell]); omega); have hg0_w2 := fun o => hf_w2 (w.heap.size) o (by (try simp only [size_drew', size_drewN', World.size_alloc, World.size_setCell]); omega); have hl1_w2 : w.heap.size + 1 < w2.heap.size := (by omega); have hm1_w2 : w.heap.size + 1 ≤ w2.heap.size := (by omega); have hn1_w2 : ¬ w.heap.size + 1 = w2.heap.size := (by omega); have hq1_w2 : ¬ w2.heap.size = w.heap.size + 1 := (by omega); have hr1_w2 := fun o => hc_w2 (w.heap.size + 1) o (by (try simp only [size_drew', size_drewN', World.size_alloc, World.size_setCell]); omega); have hg1_w2 := fun o => hf_w2 (w.heap.size + 1) o (by (try simp only [size_drew', size_drewN', World.size_alloc, World.size_setCell]); omega); have hl2_w2 : w.heap.size + 1 + 1 < w2.heap.size := (by omega); have hm2_w2 : w.heap.size + 1 + 1 ≤ w2.heap.size := (by omega); have hn2_w2 : ¬ w.heap.size + 1 + 1 = w2.heap.size := (by omega); have hq2_w2 : ¬ w2.heap.size = w.heap.size + 1 + 1 := (by omega); have hr2_w2 := fun o => hc_w2 (w.heap.size + 1 + 1) o (by (try simp only [size_drew', size_drewN', World.size_alloc, World.size_setCell]); omega); have hg2_w2 := fun o => hf_w2 (w.heap.size + 1 + 1) o (by (try simp only [size_drew', size_drewN', World.size_alloc, World.size_setCell]); omega); have hl3_w2 : w.heap.size + 1 + 1 + 1 < w2.heap.size := (by omega); have hm3_w2 : w.heap.size + 1 + 1 + 1 ≤ w2.heap.size := (by omega); have hn3_w2 : ¬ w.heap.size + 1 + 1 + 1 = w2.heap.size := (by omega); have hq3_w2 : ¬ w2.heap.size = w.heap.size + 1 + 1 + 1 := (by omega); have hr3_w2 := fun o => hc_w2 (w.heap.size + 1 + 1 + 1) o (by (try simp only [size_drew', size_drewN', World.size_alloc, World.size_setCell]); omega); have hg3_w2 := fun o => hf_w2 (w.heap.size + 1 + 1 + 1) o (by (try simp only [size_drew', size_drewN', World.size_alloc, World.size_setCell]); omega)))
  have p0 : w2.cell? ⟨w.heap.size, 0, none⟩ = some (.int .i64 c) := (hr0_w2 0).trans ((hr0_w1 0).trans (by simp [go_sem]))
  have p1 : w2.cell? ⟨w.heap.size, 1, none⟩ = some (.int .i64 d) := (hr0_w2 1).trans ((hr0_w1 1).trans (by simp [go_sem]))
  have p2 : w2.cell? ⟨w.heap.size, 2, none⟩ = some (.bool a) := (hr0_w2 2).trans ((hr0_w1 2).trans (by simp [go_sem]))
  have p3 : w2.cell? ⟨w.heap.size, 3, none⟩ = some (.bool b) := (hr0_w2 3).trans ((hr0_w1 3).trans (by simp [go_sem]))
  have q0 : w2.cell? ⟨w.heap.size + 1, 0, none⟩ = some (.int .i64 c') := (hr1_w2 0).trans ((hr1_w1 0).trans (by simp [go_sem]))
  have q1 : w2.cell? ⟨w.heap.size + 1, 1, none⟩ = some (.int .i64 d') := (hr1_w2 1).trans ((hr1_w1 1).trans (by simp [go_sem]))
  have q2 : w2.cell? ⟨w.heap.size + 1, 2, none⟩ = some (.bool a') := (hr1_w2 2).trans ((hr1_w1 2).trans (by simp [go_sem]))
  have q3 : w2.cell? ⟨w.heap.size + 1, 3, none⟩ = some (.bool b') := (hr1_w2 3).trans ((hr1_w1 3).trans (by simp [go_sem]))
  have r0 : w2.cell? ⟨w.heap.size + 1 + 1, 0, none⟩ = some (.int .i64 0) := (hr2_w2 0).trans ((hr2_w1 0).trans (by simp [go_sem]))
  have fr0 : w2.frozen? ⟨w.heap.size + 1 + 1, 0, none⟩ = false := (hg2_w2 0).trans ((hg2_w1 0).trans (by simp [go_sem]))
  have r1 : w2.cell? ⟨w.heap.size + 1 + 1, 1, none⟩ = some (.int .i64 0) := (hr2_w2 1).trans ((hr2_w1 1).trans (by simp [go_sem]))
  have fr1 : w2.frozen? ⟨w.heap.size + 1 + 1, 1, none⟩ = false := (hg2_w2 1).trans ((hg2_w1 1).trans (by simp [go_sem]))
  have r2 : w2.cell? ⟨w.heap.size + 1 + 1, 2, none⟩ = some (.bool false) := (hr2_w2 2).trans ((hr2_w1 2).trans (by simp [go_sem]))
  have fr2 : w2.frozen? ⟨w.heap.size + 1 + 1, 2, none⟩ = false := (hg2_w2 2).trans ((hg2_w1 2).trans (by simp [go_sem]))
  have r3 : w2.cell? ⟨w.heap.size + 1 + 1, 3, none⟩ = some (.bool false) := (hr2_w2 3).trans ((hr2_w1 3).trans (by simp [go_sem]))
  have fr3 : w2.frozen? ⟨w.heap.size + 1 + 1, 3, none⟩ = false := (hg2_w2 3).trans ((hg2_w1 3).trans (by simp [go_sem]))
  have s0 : w2.cell? ⟨w.heap.size + 1 + 1 + 1, 0, none⟩ = some (.int .i64 0) := (hr3_w2 0).trans ((hr3_w1 0).trans (by simp [go_sem]))
  have fs0 : w2.frozen? ⟨w.heap.size + 1 + 1 + 1, 0, none⟩ = false := (hg3_w2 0).trans ((hg3_w1 0).trans (by simp [go_sem]))
  have s1 : w2.cell? ⟨w.heap.size + 1 + 1 + 1, 1, none⟩ = some (.int .i64 0) := (hr3_w2 1).trans ((hr3_w1 1).trans (by simp [go_sem]))
  have fs1 : w2.frozen? ⟨w.heap.size + 1 + 1 + 1, 1, none⟩ = false := (hg3_w2 1).trans ((hg3_w1 1).trans (by simp [go_sem]))
  have s2 : w2.cell? ⟨w.heap.size + 1 + 1 + 1, 2, none⟩ = some (.bool false) := (hr3_w2 2).trans ((hr3_w1 2).trans (by simp [go_sem]))
  have fs2 : w2.frozen? ⟨w.heap.size + 1 + 1 + 1, 2, none⟩ = false := (hg3_w2 2).trans ((hg3_w1 2).trans (by simp [go_sem]))
  have s3 : w2.cell? ⟨w.heap.size + 1 + 1 + 1, 3, none⟩ = some (.bool false) := (hr3_w2 3).trans ((hr3_w1 3).trans (by simp [go_sem]))
  have fs3 : w2.frozen? ⟨w.heap.size + 1 + 1 + 1, 3, none⟩ = false := (hg3_w2 3).trans ((hg3_w1 3).trans (by simp [go_sem]))
  have HB := Lib.hid hB_w2
  have hzz := hB_w2.size
  clear hb_w1 hB_w1 hc_w1 hf_w1 hb_w2 hB_w2 hc_w2 hf_w2 hr0_w1 hr0_w2 hr1_w1 hr1_w2 hr2_w1 hr2_w2 hr3_w1 hr3_w2 hg0_w1 hg0_w2 hg1_w1 hg1_w2 hg2_w1 hg2_w2 hg3_w1 hg3_w2
  go_wp2
  obtain ⟨X, hX⟩ : ∃ X, X = ((w2.setCells (w.heap.size + 1 + 1) 0 [.int .i64 0, .int .i64 0, .bool false, .bool false]).setCells (w.heap.size + 1 + 1 + 1) 0 [.int .i64 0, .int .i64 0, .bool false, .bool false]) := ⟨_, rfl⟩
  change bodyPost _ _ _ _ _ ((w2.setCells (w.heap.size + 1 + 1) 0 [.int .i64 0, .int .i64 0, .bool false, .bool false]).setCells (w.heap.size + 1 + 1 + 1) 0 [.int .i64 0, .int .i64 0, .bool false, .bool false])
  rw [← hX]
  have C1 : Cs w2 (w.heap.size + 1 + 1) [.int .i64 0, .int .i64 0, .bool false, .bool false] := ⟨by omega, fun k hk => by match k, hk with | 0, _ => exact r0 | 1, _ => exact r1 | 2, _ => exact r2 | 3, _ => exact r3 | n + 4, h => exact absurd h (by simp)⟩
  have C2 : Cs w2 (w.heap.size + 1 + 1 + 1) [.int .i64 0, .int .i64 0, .bool false, .bool false] := ⟨by omega, fun k hk => by match k, hk with | 0, _ => exact s0 | 1, _ => exact s1 | 2, _ => exact s2 | 3, _ => exact s3 | n + 4, h => exact absurd h (by simp)⟩
  have D1 : Cs X (w.heap.size + 1 + 1) [.int .i64 0, .int .i64 0, .bool false, .bool false] := by rw [hX]; exact ((C1.stored _ rfl).other _ (by omega))
  have D2 : Cs X (w.heap.size + 1 + 1 + 1) [.int .i64 0, .int .i64 0, .bool false, .bool false] := by rw [hX]; exact ((C2.other _ (by omega)).stored _ rfl)
  have x0 := D1.get 0 rfl
  have y0 := D2.get 0 rfl
  have x1 := D1.get 1 rfl
  have y1 := D2.get 1 rfl
  have x2 := D1.get 2 rfl
  have y2 := D2.get 2 rfl
  have x3 := D1.get 3 rfl
  have y3 := D2.get 3 rfl
  have hXB : Below w.heap.size w X := by rw [hX]; exact (below_setCells (by omega) _ _ (below_setCells (by omega) _ _ HB.out))
  clear hX C1 C2 D1 D2 r0 s0 fr0 fs0 r1 s1 fr1 fs1 r2 s2 fr2 fs2 r3 s3 fr3 fs3
  (refine bodyPost_ret (v := .tuple #[.agg #[.int .i64 0, .int .i64 0, .bool false, .bool false], .agg #[.int .i64 0, .int .i64 0, .bool false, .bool false], .bool false]) (by simp [results, Tryd.results43, go_sem, x0, x1, x2, x3, y0, y1, y2, y3]; done) rfl (RetB.of rfl hXB))

set_option maxRecDepth 100000 in
set_option maxHeartbeats 8000000 in
theorem ce_corners_y (c d : Int) (a b : Bool) (c' d' : Int) (a' b' : Bool) (w : World) (h : Ce.right ⟨c, d, a, b⟩ = true) (h' : Ce.right ⟨c', d', a', b'⟩ = true) :
    Calls Tryd.prog 43 #[.agg #[.int .i64 c, .int .i64 d, .bool a, .bool b], .agg #[.int .i64 c', .int .i64 d', .bool a', .bool b']] w (RetB (.tuple #[.agg #[.int .i64 (min c c'), .int .i64 (min d d'), .bool false, .bool false], .agg #[.int .i64 (max c c'), .int .i64 (max d d'), .bool false, .bool false], .bool true]) w) := by
  have hr := fun w => ce_right_any c d a b w
  rw [h] at hr
  have hs := fun w => ce_right_any c' d' a' b' w
  rw [h'] at hs
  obtain ⟨m0, hm0⟩ : ∃ m, m = min c c' := ⟨_, rfl⟩
  obtain ⟨m1, hm1⟩ : ∃ m, m = min d d' := ⟨_, rfl⟩
  obtain ⟨m2, hm2⟩ : ∃ m, m = max c c' := ⟨_, rfl⟩
  obtain ⟨m3, hm3⟩ : ∃ m, m = max d d' := ⟨_, rfl⟩
  rw [← hm0, ← hm1, ← hm2, ← hm3]
  have e0 : (if c' < c then c' else c) = m0 := by rw [hm0]; split <;> omega
  have e1 : (if d' < d then d' else d) = m1 := by rw [hm1]; split <;> omega
  have e2 : (if c < c' then c' else c) = m2 := by rw [hm2]; split <;> omega
  have e3 : (if d < d' then d' else d) = m3 := by rw [hm3]; split <;> omega
  have E0 := Lib.hid e0; have E1 := Lib.hid e1; have E2 := Lib.hid e2; have E3 := Lib.hid e3
  have HR := Lib.hid hr; have HS := Lib.hid hs; clear hr hs h h' e0 e1 e2 e3 hm0 hm1 hm2 hm3
  have tok1 : True := trivial
  go_enter Tryd.func43, Tryd.ntmps43
  go_wp2_with (first
    | (clear tok1; (go_at_call 12; (with_reducible refine (HR.out _).mono ?_); rintro e w1 ⟨rfl, hb_w1⟩; have hB_w1 : Below (w).heap.size (w) w1 := Below.trans (by (repeat (first | exact Below.refl _ _ | assumption | refine Below.setCell ?_ (by first | omega | (simp <;> omega)) _ | refine Below.alloc ?_ (by first | omega | (simp <;> omega)) _ | refine Below.drew ?_ | refine below_drewN' ?_ _))) (hb_w1.mono (by first | omega | (simp <;> omega))); obtain ⟨hc_w1, hf_w1⟩ := bcell hb_w1; have hz_w1 := hb_w1.size; (try simp only [size_drew', size_drewN', World.size_alloc, World.size_setCell] at hz_w1); have hl0_w1 : w.heap.size < w1.heap.size := (by omega); have hm0_w1 : w.heap.size ≤ w1.heap.size := (by omega); have hn0_w1 : ¬ w.heap.size = w1.heap.size := (by omega); have hq0_w1 : ¬ w1.heap.size = w.heap.size := (by omega); have hr0_w1 := fun o => hc_w1 (w.heap.size) o (by (try simp only [size_drew', size_drewN', World.size_alloc, World.size_setCell]); omega); have hg0_w1 := fun o => hf_w1 (w.heap.size) o (by (try simp only [size_drew', size_drewN', World.size_alloc, World.size_setCell]); omega); have hl1_w1 : w.heap.size + 1 < w1.heap.size := (by omega); have hm1_w1 : w.heap.size + 1 ≤ w1.heap.size := (by omega); have hn1_w1 : ¬ w.heap.size + 1 = w1.heap.size := (by omega); have hq1_w1 : ¬ w1.heap.size = w.heap.size + 1 := (by omega); have hr1_w1 := fun o => hc_w1 (w.heap.size + 1) o (by (try simp only [size_drew', size_drewN', World.size_alloc, World.size_setCell]); omega); have hg1_w1 := fun o => hf_w1 (w.heap.size + 1) o (by (try simp only [size_drew', size_drewN', World.size_alloc, World.size_setCell]); omega); have hl2_w1 : w.heap.size + 1 + 1 < w1.heap.size := (by omega); have hm2_w1 : w.heap.size + 1 + 1 ≤ w1.heap.size := (by omega); have hn2_w1 : ¬ w.heap.size + 1 + 1 = w1.heap.size := (by omega); have hq2_w1 : ¬ w1.heap.size = w.heap.size + 1 + 1 := (by omega); have hr2_w1 := fun o => hc_w1 (w.heap.size + 1 + 1) o (by (try simp only [size_drew', size_drewN', World.size_alloc, World.size_setCell]); omega); have hg2_w1 := fun o => hf_w1 (w.heap.size + 1 + 1) o (by (try simp only [size_drew', size_drewN', World.size_alloc, World.size_setCell]); omega); have hl3_w1 : w.heap.size + 1 + 1 + 1 < w1.heap.size := (by omega); have hm3_w1 : w.heap.size + 1 + 1 + 1 ≤ w1.heap.size := (by omega); have hn3_w1 : ¬ w.heap.size + 1 + 1 + 1 = w1.heap.size := (by omega); have hq3_w1 : ¬ w1.heap.size = w.heap.size + 1 + 1 + 1 := (by omega); have hr3_w1 := fun o => hc_w1 (w.heap.size + 1 + 1 + 1) o (by (try simp only [size_drew', size_drewN', World.size_alloc, World.size_setCell]); omega); have hg3_w1 := fun o => hf_w1 (w.heap.size + 1 + 1 + 1) o (by (try simp only [size_drew', size_drewN', World.size_alloc, World.size_setCell]); omega)))
    | (go_at_call 12; (with_reducible refine (HS.out _).mono ?_); rintro e w2 ⟨rfl, hb_w2⟩; have hB_w2 : Below (w).heap.size (w) w2 := Below.trans (by (repeat (first | exact Below.refl _ _ | assumption | refine Below.setCell ?_ (by first | omega | (simp <;> omega)) _ | refine Below.alloc ?_ (by first | omega | (simp <;> omega)) _ | refine Below.drew ?_ | refine below_drewN' ?_ _))) (hb_w2.mono (by first | omega | (simp <;> omega))); obtain ⟨hc_w2, hf_w2⟩ := bcell hb_w2; have hz_w2 := hb_w2.size; (try simp only [size_drew', size_drewN', World.size_alloc, World.size_setCell] at hz_w2); have hl0_w2 : w.heap.size < w2.heap.size := (by omega); have hm0_w2 : w.heap.size ≤ w2.heap.size := (by omega); have hn0_w2 : ¬ w.heap.size = w2.heap.size := (by omega); have hq0_w2 : ¬ w2.heap.size = w.heap.size := (by omega); have hr0_w2 := fun o => hc_w2 (w.heap.size) o (by (try simp only [size_drew', size_drewN', World.size_alloc, World.size_setCell]); omega); have hg0_w2 := fun o => hf_w2 (w.heap.size) o (by (try simp only [size_drew', size_drewN', World.size_alloc, World.size_setCell]); omega); have hl1_w2 : w.heap.size + 1 < w2.heap.size := (by omega); have hm1_w2 : w.heap.size + 1 ≤ w2.heap.size := (by omega); have hn1_w2 : ¬ w.heap.size + 1 = w2.heap.size := (by omega); have hq1_w2 : ¬ w2.heap.size = w.heap.size + 1 := (by omega); have hr1_w2 := fun o => hc_w2 (w.heap.size + 1) o (by (try simp only [size_drew', size_drewN', World.size_alloc, World.size_setCell]); omega); have hg1_w2 := fun o => hf_w2 (w.heap.size + 1) o (by (try simp only [size_drew', size_drewN', World.size_alloc, World.size_setCell]); omega); have hl2_w2 : w.heap.size + 1 + 1 < w2.heap.size := (by omega); have hm2_w2 : w.heap.size + 1 + 1 ≤ w2.heap.size := (by omega); have hn2_w2 : ¬ w.heap.size + 1 + 1 = w2.heap.size := (by omega); have hq2_w2 : ¬ w2.heap.size = w.heap.size + 1 + 1 := (by omega); have hr2_w2 := fun o => hc_w2 (w.heap.size + 1 + 1) o (by (try simp only [size_drew', size_drewN', World.size_alloc, World.size_setCell]); omega); have hg2_w2 := fun o => hf_w2 (w.heap.size + 1 + 1) o (by (try simp only [size_drew', size_drewN', World.size_alloc, World.size_setCell]); omega); have hl3_w2 : w.heap.size + 1 + 1 + 1 < w2.heap.size := (by omega); have hm3_w2 : w.heap.size + 1 + 1 + 1 ≤ w2.heap.size := (by omega); have hn3_w2 : ¬ w.heap.size + 1 + 1 + 1 = w2.heap.size := (by omega); have hq3_w2 : ¬ w2.heap.size = w.heap.size + 1 + 1 + 1 := (by omega); have hr3_w2 := fun o => hc_w2 (w.heap.size + 1 + 1 + 1) o (by (try simp only [size_drew', size_drewN', World.size_alloc, World.size_setCell]); omega); have hg3_w2 := fun o => hf_w2 (w.heap.size + 1 + 1 + 1) o (by (try simp only [size_drew', size_drewN', World.size_alloc, World.size_setCell]); omega)))
  have p0 : w2.cell? ⟨w.heap.size, 0, none⟩ = some (.int .i64 c) := (hr0_w2 0).trans ((hr0_w1 0).trans (by simp [go_sem]))
  have p1 : w2.cell? ⟨w.heap.size, 1, none⟩ = some (.int .i64 d) := (hr0_w2 1).trans ((hr0_w1 1).trans (by simp [go_sem]))
  have p2 : w2.cell? ⟨w.heap.size, 2, none⟩ = some (.bool a) := (hr0_w2 2).trans ((hr0_w1 2).trans (by simp [go_sem]))
  have p3 : w2.cell? ⟨w.heap.size, 3, none⟩ = some (.bool b) := (hr0_w2 3).trans ((hr0_w1 3).trans (by simp [go_sem]))
  have q0 : w2.cell? ⟨w.heap.size + 1, 0, none⟩ = some (.int .i64 c') := (hr1_w2 0).trans ((hr1_w1 0).trans (by simp [go_sem]))
  have q1 : w2.cell? ⟨w.heap.size + 1, 1, none⟩ = some (.int .i64 d') := (hr1_w2 1).trans ((hr1_w1 1).trans (by simp [go_sem]))
  have q2 : w2.cell? ⟨w.heap.size + 1, 2, none⟩ = some (.bool a') := (hr1_w2 2).trans ((hr1_w1 2).trans (by simp [go_sem]))
  have q3 : w2.cell? ⟨w.heap.size + 1, 3, none⟩ = some (.bool b') := (hr1_w2 3).trans ((hr1_w1 3).trans (by simp [go_sem]))
  have r0 : w2.cell? ⟨w.heap.size + 1 + 1, 0, none⟩ = some (.int .i64 0) := (hr2_w2 0).trans ((hr2_w1 0).trans (by simp [go_sem]))
  have fr0 : w2.frozen? ⟨w.heap.size + 1 + 1, 0, none⟩ = false := (hg2_w2 0).trans ((hg2_w1 0).trans (by simp [go_sem]))
  have r1 : w2.cell? ⟨w.heap.size + 1 + 1, 1, none⟩ = some (.int .i64 0) := (hr2_w2 1).trans ((hr2_w1 1).trans (by simp [go_sem]))
  have fr1 : w2.frozen? ⟨w.heap.size + 1 + 1, 1, none⟩ = false := (hg2_w2 1).trans ((hg2_w1 1).trans (by simp [go_sem]))
  have r2 : w2.cell? ⟨w.heap.size + 1 + 1, 2, none⟩ = some (.bool false) := (hr2_w2 2).trans ((hr2_w1 2).trans (by simp [go_sem]))
  have fr2 : w2.frozen? ⟨w.heap.size + 1 + 1, 2, none⟩ = false := (hg2_w2 2).trans ((hg2_w1 2).trans (by simp [go_sem]))
  have r3 : w2.cell? ⟨w.heap.size + 1 + 1, 3, none⟩ = some (.bool false) := (hr2_w2 3).trans ((hr2_w1 3).trans (by simp [go_sem]))
  have fr3 : w2.frozen? ⟨w.heap.size + 1 + 1, 3, none⟩ = false := (hg2_w2 3).trans ((hg2_w1 3).trans (by simp [go_sem]))
  have s0 : w2.cell? ⟨w.heap.size + 1 + 1 + 1, 0, none⟩ = some (.int .i64 0) := (hr3_w2 0).trans ((hr3_w1 0).trans (by simp [go_sem]))
  have fs0 : w2.frozen? ⟨w.heap.size + 1 + 1 + 1, 0, none⟩ = false := (hg3_w2 0).trans ((hg3_w1 0).trans (by simp [go_sem]))
  have s1 : w2.cell? ⟨w.heap.size + 1 + 1 + 1, 1, none⟩ = some (.int .i64 0) := (hr3_w2 1).trans ((hr3_w1 1).trans (by simp [go_sem]))
  have fs1 : w2.frozen? ⟨w.heap.size + 1 + 1 + 1, 1, none⟩ = false := (hg3_w2 1).trans ((hg3_w1 1).trans (by simp [go_sem]))
  have s2 : w2.cell? ⟨w.heap.size + 1 + 1 + 1, 2, none⟩ = some (.bool false) := (hr3_w2 2).trans ((hr3_w1 2).trans (by simp [go_sem]))
  have fs2 : w2.frozen? ⟨w.heap.size + 1 + 1 + 1, 2, none⟩ = false := (hg3_w2 2).trans ((hg3_w1 2).trans (by simp [go_sem]))
  have s3 : w2.cell? ⟨w.heap.size + 1 + 1 + 1, 3, none⟩ = some (.bool false) := (hr3_w2 3).trans ((hr3_w1 3).trans (by simp [go_sem]))
  have fs3 : w2.frozen? ⟨w.heap.size + 1 + 1 + 1, 3, none⟩ = false := (hg3_w2 3).trans ((hg3_w1 3).trans (by simp [go_sem]))
  have HB := Lib.hid hB_w2
  have hzz := hB_w2.size
  clear hb_w1 hB_w1 hc_w1 hf_w1 hb_w2 hB_w2 hc_w2 hf_w2 hr0_w1 hr0_w2 hr1_w1 hr1_w2 hr2_w1 hr2_w2 hr3_w1 hr3_w2 hg0_w1 hg0_w2 hg1_w1 hg1_w2 hg2_w1 hg2_w2 hg3_w1 hg3_w2
  clear hl0_w1 hl0_w2 hl1_w1 hl1_w2 hl2_w1 hl2_w2 hl3_w1 hl3_w2 hm0_w1 hm0_w2 hm1_w1 hm1_w2 hm2_w1 hm2_w2 hm3_w1 hm3_w2 hn0_w1 hn0_w2 hn1_w1 hn1_w2 hn2_w1 hn2_w2 hn3_w1 hn3_w2 hq0_w1 hq0_w2 hq1_w1 hq1_w2 hq2_w1 hq2_w2 hq3_w1 hq3_w2 hz_w1 hz_w2
  have k1 : ¬ w.heap.size + 1 + 1 = w.heap.size := by omega
  have k2 : ¬ w.heap.size + 1 + 1 + 1 = w.heap.size := by omega
  have k3 : ¬ w.heap.size + 1 + 1 = w.heap.size + 1 := by omega
  have k4 : ¬ w.heap.size + 1 + 1 + 1 = w.heap.size + 1 := by omega
  refine wp_region_held_drew (S := fun w' => w'.cell? ⟨w.heap.size, 0, none⟩ = some (.int .i64 c) ∧ w'.cell? ⟨w.heap.size, 1, none⟩ = some (.int .i64 d) ∧ w'.cell? ⟨w.heap.size + 1, 0, none⟩ = some (.int .i64 c') ∧ w'.cell? ⟨w.heap.size + 1, 1, none⟩ = some (.int .i64 d')) (by kernel_rfl) ⟨p0, p1, q0, q1⟩ (fun hHeld => ?_)
  refine wpAnyH_take (i := 0) (v := ?_) rfl (by kernel_rfl) (by kernel_rfl) (by kernel_rfl) (fun _ _ _ h => h) (Or.inl ⟨by rfl, ?_⟩) hHeld ?_
  rotate_left
  · intro w hSw; (try dsimp only at hSw); go_simp; try with_reducible rfl
  simp only [Act.put, List.setIfInBounds_toArray, List.set_cons_zero, List.set_cons_succ]
  refine wpAnyH_take (i := 1) (v := ?_) rfl (by kernel_rfl) (by kernel_rfl) (by kernel_rfl) (fun _ _ _ h => h) (Or.inl ⟨by rfl, ?_⟩) hHeld ?_
  rotate_left
  · intro w hSw; (try dsimp only at hSw); go_simp; try with_reducible rfl
  simp only [Act.put, List.setIfInBounds_toArray, List.set_cons_zero, List.set_cons_succ]
  refine wpAnyH_take (i := 2) (v := ?_) rfl (by kernel_rfl) (by kernel_rfl) (by kernel_rfl) (fun _ _ _ h => h) (Or.inl ⟨by rfl, ?_⟩) hHeld ?_
  rotate_left
  · intro w hSw; (try dsimp only at hSw); go_simp; try with_reducible rfl
  simp only [Act.put, List.setIfInBounds_toArray, List.set_cons_zero, List.set_cons_succ]
  refine wpAnyH_take (i := 3) (v := ?_) rfl (by kernel_rfl) (by kernel_rfl) (by kernel_rfl) (fun _ _ _ h => h) (Or.inl ⟨by rfl, ?_⟩) hHeld ?_
  rotate_left
  · intro w hSw; (try dsimp only at hSw); go_simp; try with_reducible rfl
  simp only [Act.put, List.setIfInBounds_toArray, List.set_cons_zero, List.set_cons_succ]
  refine wpAnyH_take (i := 4) (v := ?_) rfl (by kernel_rfl) (by kernel_rfl) (by kernel_rfl) (fun _ _ _ h => h) (Or.inl ⟨by rfl, ?_⟩) hHeld ?_
  rotate_left
  · intro w hSw; (try dsimp only at hSw); go_simp; try with_reducible rfl
  simp only [Act.put, List.setIfInBounds_toArray, List.set_cons_zero, List.set_cons_succ]
  refine wpAnyH_take (i := 5) (v := ?_) rfl (by kernel_rfl) (by kernel_rfl) (by kernel_rfl) (fun _ _ _ h => h) (Or.inl ⟨by rfl, ?_⟩) hHeld ?_
  rotate_left
  · intro w hSw; (try dsimp only at hSw); go_simp; try with_reducible rfl
  simp only [Act.put, List.setIfInBounds_toArray, List.set_cons_zero, List.set_cons_succ]
  refine wpAnyH_take (i := 6) (v := ?_) rfl (by kernel_rfl) (by kernel_rfl) (by kernel_rfl) (fun _ _ _ h => h) (Or.inl ⟨by rfl, ?_⟩) hHeld ?_
  rotate_left
  · intro w hSw; (try dsimp only at hSw); go_simp; try with_reducible rfl
  simp only [Act.put, List.setIfInBounds_toArray, List.set_cons_zero, List.set_cons_succ]
  refine wpAnyH_take (i := 7) (v := ?_) rfl (by kernel_rfl) (by kernel_rfl) (by kernel_rfl) (fun _ _ _ h => h) (Or.inl ⟨by rfl, ?_⟩) hHeld ?_
  rotate_left
  · intro w hSw; (try dsimp only at hSw); go_simp; try with_reducible rfl
  simp only [Act.put, List.setIfInBounds_toArray, List.set_cons_zero, List.set_cons_succ]
  refine wpAnyH_take (i := 8) (v := ?_) rfl (by kernel_rfl) (by kernel_rfl) (by kernel_rfl) (fun _ _ _ h => h) (Or.inl ⟨by rfl, ?_⟩) hHeld ?_
  rotate_left
  · intro w hSw; (try dsimp only at hSw); go_simp; try with_reducible rfl
  simp only [Act.put, List.setIfInBounds_toArray, List.set_cons_zero, List.set_cons_succ]
  refine wpAnyH_take (i := 9) (v := ?_) rfl (by kernel_rfl) (by kernel_rfl) (by kernel_rfl) (fun _ _ _ h => h) (Or.inl ⟨by rfl, ?_⟩) hHeld ?_
  rotate_left
  · intro w hSw; (try dsimp only at hSw); go_simp; try with_reducible rfl
  simp only [Act.put, List.setIfInBounds_toArray, List.set_cons_zero, List.set_cons_succ]
  refine wpAnyH_take (i := 10) (v := ?_) rfl (by kernel_rfl) (by kernel_rfl) (by kernel_rfl) (fun _ _ _ h => h) (Or.inl ⟨by rfl, ?_⟩) hHeld ?_
  rotate_left
  · intro w hSw; (try dsimp only at hSw); go_simp; try with_reducible rfl
  simp only [Act.put, List.setIfInBounds_toArray, List.set_cons_zero, List.set_cons_succ]
  refine wpAnyH_take (i := 11) (v := ?_) rfl (by kernel_rfl) (by kernel_rfl) (by kernel_rfl) (fun _ _ _ h => h) (Or.inl ⟨by rfl, ?_⟩) hHeld ?_
  rotate_left
  · intro w hSw; (try dsimp only at hSw); go_simp; try with_reducible rfl
  simp only [Act.put, List.setIfInBounds_toArray, List.set_cons_zero, List.set_cons_succ]
  refine wpAnyH_take (i := 12) (v := ?_) rfl (by kernel_rfl) (by kernel_rfl) (by kernel_rfl) (fun _ _ _ h => h) (Or.inl ⟨by rfl, ?_⟩) hHeld ?_
  rotate_left
  · intro w hSw; (try dsimp only at hSw); go_simp; try with_reducible rfl
  simp only [Act.put, List.setIfInBounds_toArray, List.set_cons_zero, List.set_cons_succ]
  refine wpAnyH_take (i := 13) (v := ?_) rfl (by kernel_rfl) (by kernel_rfl) (by kernel_rfl) (fun _ _ _ h => h) (Or.inl ⟨by rfl, ?_⟩) hHeld ?_
  rotate_left
  · intro w hSw; (try dsimp only at hSw); go_simp; try with_reducible rfl
  simp only [Act.put, List.setIfInBounds_toArray, List.set_cons_zero, List.set_cons_succ]
  refine wpAnyH_take (i := 14) (v := ?_) rfl (by kernel_rfl) (by kernel_rfl) (by kernel_rfl) (fun _ _ _ h => h) (Or.inl ⟨by rfl, ?_⟩) hHeld ?_
  rotate_left
  · intro w hSw; (try dsimp only at hSw); go_simp; try with_reducible rfl
  simp only [Act.put, List.setIfInBounds_toArray, List.set_cons_zero, List.set_cons_succ]
  refine wpAnyH_take (i := 15) (v := ?_) rfl (by kernel_rfl) (by kernel_rfl) (by kernel_rfl) (fun _ _ _ h => h) (Or.inl ⟨by rfl, ?_⟩) hHeld ?_
  rotate_left
  · intro w hSw; (try dsimp only at hSw); go_simp; try with_reducible rfl
  simp only [Act.put, List.setIfInBounds_toArray, List.set_cons_zero, List.set_cons_succ]
  refine wpAnyH_take (i := 16) (v := ?_) rfl (by kernel_rfl) (by kernel_rfl) (by kernel_rfl) (fun _ _ _ h => h) (Or.inl ⟨by rfl, ?_⟩) hHeld ?_
  rotate_left
  · intro w hSw; (try dsimp only at hSw); go_simp; try with_reducible rfl
  simp only [Act.put, List.setIfInBounds_toArray, List.set_cons_zero, List.set_cons_succ]
  refine wpAnyH_take (i := 17) (v := ?_) rfl (by kernel_rfl) (by kernel_rfl) (by kernel_rfl) (fun _ _ _ h => h) (Or.inl ⟨by rfl, ?_⟩) hHeld ?_
  rotate_left
  · intro w hSw; (try dsimp only at hSw); go_simp; try with_reducible rfl
  simp only [Act.put, List.setIfInBounds_toArray, List.set_cons_zero, List.set_cons_succ]
  refine wpAnyH_take (i := 18) (v := ?_) rfl (by kernel_rfl) (by kernel_rfl) (by kernel_rfl) (fun _ _ _ h => h) (Or.inl ⟨by rfl, ?_⟩) hHeld ?_
  rotate_left
  · intro w hSw; (try dsimp only at hSw); go_simp; try with_reducible rfl
  simp only [Act.put, List.setIfInBounds_toArray, List.set_cons_zero, List.set_cons_succ]
  refine wpAnyH_take (i := 19) (v := ?_) rfl (by kernel_rfl) (by kernel_rfl) (by kernel_rfl) (fun _ _ _ h => h) (Or.inl ⟨by rfl, ?_⟩) hHeld ?_
  rotate_left
  · intro w hSw; (try dsimp only at hSw); go_simp; try with_reducible rfl
  simp only [Act.put, List.setIfInBounds_toArray, List.set_cons_zero, List.set_cons_succ]
  refine wpAnyH_take (i := 20) (v := ?_) rfl (by kernel_rfl) (by kernel_rfl) (by kernel_rfl) (fun _ _ _ h => h) (Or.inl ⟨by rfl, ?_⟩) hHeld ?_
  rotate_left
  · intro w hSw; (try dsimp only at hSw); go_simp; try with_reducible rfl
  simp only [Act.put, List.setIfInBounds_toArray, List.set_cons_zero, List.set_cons_succ]
  refine wpAnyH_take (i := 21) (v := ?_) rfl (by kernel_rfl) (by kernel_rfl) (by kernel_rfl) (fun _ _ _ h => h) (Or.inl ⟨by rfl, ?_⟩) hHeld ?_
  rotate_left
  · intro w hSw; (try dsimp only at hSw); go_simp; try with_reducible rfl
  simp only [Act.put, List.setIfInBounds_toArray, List.set_cons_zero, List.set_cons_succ]
  simp only [E0.out, E1.out, E2.out, E3.out]
  refine wpAnyH_ready (rs := [22]) (by kernel_rfl) (by simp) ?_
  refine AllReadyH.cons rfl (fun K hK => ?_) AllReadyH.nil
  go_simp
  refine hK.out _ _ ⟨(far_cells w2 (w.heap.size + 1 + 1) (w.heap.size) 0 [.int .i64 m0, .int .i64 m1, .bool false, .bool false] (by omega)).trans p0, (far_cells w2 (w.heap.size + 1 + 1) (w.heap.size) 1 [.int .i64 m0, .int .i64 m1, .bool false, .bool false] (by omega)).trans p1, (far_cells w2 (w.heap.size + 1 + 1) (w.heap.size + 1) 0 [.int .i64 m0, .int .i64 m1, .bool false, .bool false] (by omega)).trans q0, (far_cells w2 (w.heap.size + 1 + 1) (w.heap.size + 1) 1 [.int .i64 m0, .int .i64 m1, .bool false, .bool false] (by omega)).trans q1⟩ (fun hHeld2 => ?_)
  clear hK K hHeld
  obtain ⟨X, hX⟩ : ∃ X, X = ((w2.setCells (w.heap.size + 1 + 1) 0 [.int .i64 m0, .int .i64 m1, .bool false, .bool false]).drew) := ⟨_, rfl⟩
  change wpAnyH _ _ _ _ _ _ _ _ ((w2.setCells (w.heap.size + 1 + 1) 0 [.int .i64 m0, .int .i64 m1, .bool false, .bool false]).drew)
  rw [← hX]
  have xp0 : X.cell? ⟨w.heap.size, 0, none⟩ = some (.int .i64 c) := by rw [hX]; exact (far_cells w2 (w.heap.size + 1 + 1) (w.heap.size) 0 [.int .i64 m0, .int .i64 m1, .bool false, .bool false] (by omega)).trans p0
  have xp1 : X.cell? ⟨w.heap.size, 1, none⟩ = some (.int .i64 d) := by rw [hX]; exact (far_cells w2 (w.heap.size + 1 + 1) (w.heap.size) 1 [.int .i64 m0, .int .i64 m1, .bool false, .bool false] (by omega)).trans p1
  have xq0 : X.cell? ⟨w.heap.size + 1, 0, none⟩ = some (.int .i64 c') := by rw [hX]; exact (far_cells w2 (w.heap.size + 1 + 1) (w.heap.size + 1) 0 [.int .i64 m0, .int .i64 m1, .bool false, .bool false] (by omega)).trans q0
  have xq1 : X.cell? ⟨w.heap.size + 1, 1, none⟩ = some (.int .i64 d') := by rw [hX]; exact (far_cells w2 (w.heap.size + 1 + 1) (w.heap.size + 1) 1 [.int .i64 m0, .int .i64 m1, .bool false, .bool false] (by omega)).trans q1
  have xs0 : X.cell? ⟨w.heap.size + 1 + 1 + 1, 0, none⟩ = some (.int .i64 0) := by rw [hX]; exact (far_cells w2 (w.heap.size + 1 + 1) (w.heap.size + 1 + 1 + 1) 0 [.int .i64 m0, .int .i64 m1, .bool false, .bool false] (by omega)).trans s0
  have xs1 : X.cell? ⟨w.heap.size + 1 + 1 + 1, 1, none⟩ = some (.int .i64 0) := by rw [hX]; exact (far_cells w2 (w.heap.size + 1 + 1) (w.heap.size + 1 + 1 + 1) 1 [.int .i64 m0, .int .i64 m1, .bool false, .bool false] (by omega)).trans s1
  have xs2 : X.cell? ⟨w.heap.size + 1 + 1 + 1, 2, none⟩ = some (.bool false) := by rw [hX]; exact (far_cells w2 (w.heap.size + 1 + 1) (w.heap.size + 1 + 1 + 1) 2 [.int .i64 m0, .int .i64 m1, .bool false, .bool false] (by omega)).trans s2
  have xs3 : X.cell? ⟨w.heap.size + 1 + 1 + 1, 3, none⟩ = some (.bool false) := by rw [hX]; exact (far_cells w2 (w.heap.size + 1 + 1) (w.heap.size + 1 + 1 + 1) 3 [.int .i64 m0, .int .i64 m1, .bool false, .bool false] (by omega)).trans s3
  have xf0 : X.frozen? ⟨w.heap.size + 1 + 1 + 1, 0, none⟩ = false := by rw [hX]; exact (World.frozen?_setCells (w.heap.size + 1 + 1) [.int .i64 m0, .int .i64 m1, .bool false, .bool false] 0 w2 ⟨w.heap.size + 1 + 1 + 1, 0, none⟩).trans fs0
  have xf1 : X.frozen? ⟨w.heap.size + 1 + 1 + 1, 1, none⟩ = false := by rw [hX]; exact (World.frozen?_setCells (w.heap.size + 1 + 1) [.int .i64 m0, .int .i64 m1, .bool false, .bool false] 0 w2 ⟨w.heap.size + 1 + 1 + 1, 1, none⟩).trans fs1
  have xf2 : X.frozen? ⟨w.heap.size + 1 + 1 + 1, 2, none⟩ = false := by rw [hX]; exact (World.frozen?_setCells (w.heap.size + 1 + 1) [.int .i64 m0, .int .i64 m1, .bool false, .bool false] 0 w2 ⟨w.heap.size + 1 + 1 + 1, 2, none⟩).trans fs2
  have xf3 : X.frozen? ⟨w.heap.size + 1 + 1 + 1, 3, none⟩ = false := by rw [hX]; exact (World.frozen?_setCells (w.heap.size + 1 + 1) [.int .i64 m0, .int .i64 m1, .bool false, .bool false] 0 w2 ⟨w.heap.size + 1 + 1 + 1, 3, none⟩).trans fs3
  have hHeld3 : X.cell? ⟨w.heap.size, 0, none⟩ = some (.int .i64 c) ∧ X.cell? ⟨w.heap.size, 1, none⟩ = some (.int .i64 d) ∧ X.cell? ⟨w.heap.size + 1, 0, none⟩ = some (.int .i64 c') ∧ X.cell? ⟨w.heap.size + 1, 1, none⟩ = some (.int .i64 d') := ⟨xp0, xp1, xq0, xq1⟩
  have C1 : Cs w2 (w.heap.size + 1 + 1) [.int .i64 0, .int .i64 0, .bool false, .bool false] := ⟨World.block_lt_of_cell? w2 _ r0, fun k hk => by match k, hk with | 0, _ => exact r0 | 1, _ => exact r1 | 2, _ => exact r2 | 3, _ => exact r3 | n + 4, h => exact absurd h (by simp)⟩
  have C2 : Cs w2 (w.heap.size + 1 + 1 + 1) [.int .i64 0, .int .i64 0, .bool false, .bool false] := ⟨World.block_lt_of_cell? w2 _ s0, fun k hk => by match k, hk with | 0, _ => exact s0 | 1, _ => exact s1 | 2, _ => exact s2 | 3, _ => exact s3 | n + 4, h => exact absurd h (by simp)⟩
  have D1 : Cs X (w.heap.size + 1 + 1) [.int .i64 m0, .int .i64 m1, .bool false, .bool false] := by rw [hX]; exact (Cs.stored [.int .i64 m0, .int .i64 m1, .bool false, .bool false] C1 rfl).drew
  have D2 : Cs X (w.heap.size + 1 + 1 + 1) [.int .i64 0, .int .i64 0, .bool false, .bool false] := by rw [hX]; exact (C2.other _ (by omega)).drew
  have hXB : Below w.heap.size w X := by rw [hX]; exact Below.drew (below_setCells (by omega) _ _ HB.out)
  clear hX C1 C2 r0 s0 fr0 fs0 r1 s1 fr1 fs1 r2 s2 fr2 fs2 r3 s3 fr3 fs3 hHeld2 p0 p1 p2 p3 q0 q1 q2 q3
  have HXB := Lib.hid hXB; have HD1 := Lib.hid D1; have HD2 := Lib.hid D2
  clear hXB D1 D2
  refine wpAnyH_ready (rs := [23]) (by kernel_rfl) (by simp) ?_
  refine AllReadyH.cons rfl (fun K hK => ?_) AllReadyH.nil
  go_simp
  refine hK.out _ _ ⟨(far_cells X (w.heap.size + 1 + 1 + 1) (w.heap.size) 0 [.int .i64 m2, .int .i64 m3, .bool false, .bool false] (by omega)).trans xp0, (far_cells X (w.heap.size + 1 + 1 + 1) (w.heap.size) 1 [.int .i64 m2, .int .i64 m3, .bool false, .bool false] (by omega)).trans xp1, (far_cells X (w.heap.size + 1 + 1 + 1) (w.heap.size + 1) 0 [.int .i64 m2, .int .i64 m3, .bool false, .bool false] (by omega)).trans xq0, (far_cells X (w.heap.size + 1 + 1 + 1) (w.heap.size + 1) 1 [.int .i64 m2, .int .i64 m3, .bool false, .bool false] (by omega)).trans xq1⟩ (fun hHeld2 => ?_)
  clear hK K hHeld3
  obtain ⟨Y, hY⟩ : ∃ Y, Y = (X.setCells (w.heap.size + 1 + 1 + 1) 0 [.int .i64 m2, .int .i64 m3, .bool false, .bool false]) := ⟨_, rfl⟩
  change wpAnyH _ _ _ _ _ _ _ _ (X.setCells (w.heap.size + 1 + 1 + 1) 0 [.int .i64 m2, .int .i64 m3, .bool false, .bool false])
  rw [← hY]
  have yp0 : Y.cell? ⟨w.heap.size, 0, none⟩ = some (.int .i64 c) := by rw [hY]; exact (far_cells X (w.heap.size + 1 + 1 + 1) (w.heap.size) 0 [.int .i64 m2, .int .i64 m3, .bool false, .bool false] (by omega)).trans xp0
  have yp1 : Y.cell? ⟨w.heap.size, 1, none⟩ = some (.int .i64 d) := by rw [hY]; exact (far_cells X (w.heap.size + 1 + 1 + 1) (w.heap.size) 1 [.int .i64 m2, .int .i64 m3, .bool false, .bool false] (by omega)).trans xp1
  have yq0 : Y.cell? ⟨w.heap.size + 1, 0, none⟩ = some (.int .i64 c') := by rw [hY]; exact (far_cells X (w.heap.size + 1 + 1 + 1) (w.heap.size + 1) 0 [.int .i64 m2, .int .i64 m3, .bool false, .bool false] (by omega)).trans xq0
  have yq1 : Y.cell? ⟨w.heap.size + 1, 1, none⟩ = some (.int .i64 d') := by rw [hY]; exact (far_cells X (w.heap.size + 1 + 1 + 1) (w.heap.size + 1) 1 [.int .i64 m2, .int .i64 m3, .bool false, .bool false] (by omega)).trans xq1
  have E1' : Cs Y (w.heap.size + 1 + 1) [.int .i64 m0, .int .i64 m1, .bool false, .bool false] := by rw [hY]; exact HD1.out.other _ (by omega)
  have E2' : Cs Y (w.heap.size + 1 + 1 + 1) [.int .i64 m2, .int .i64 m3, .bool false, .bool false] := by rw [hY]; exact Cs.stored [.int .i64 m2, .int .i64 m3, .bool false, .bool false] HD2.out rfl
  have hYB : Below w.heap.size w Y := by rw [hY]; exact below_setCells (by omega) _ _ HXB.out
  have x0 := E1'.get 0 rfl
  have y0 := E2'.get 0 rfl
  have x1 := E1'.get 1 rfl
  have y1 := E2'.get 1 rfl
  have x2 := E1'.get 2 rfl
  have y2 := E2'.get 2 rfl
  have x3 := E1'.get 3 rfl
  have y3 := E2'.get 3 rfl
  clear E1' E2' hY hHeld2 xp0 xp1 xq0 xq1 xs0 xs1 xs2 xs3 xf0 xf1 xf2 xf3
  have HYB := Lib.hid hYB; clear hYB
  refine wpAnyH_ready (rs := [24]) (by kernel_rfl) (by simp) ?_
  refine AllReadyH.cons rfl (fun K hK => ?_) AllReadyH.nil
  go_simp
  refine hK.out _ _ ⟨yp0, yp1, yq0, yq1⟩ (fun hHeld2 => ?_)
  clear hK K hHeld2
  refine wpAnyH_done (by kernel_rfl) ?_ _
  go_wp2
  (refine bodyPost_ret (v := .tuple #[.agg #[.int .i64 m0, .int .i64 m1, .bool false, .bool false], .agg #[.int .i64 m2, .int .i64 m3, .bool false, .bool false], .bool true]) (by simp [results, Tryd.results43, go_sem, x0, x1, x2, x3, y0, y1, y2, y3]; done) rfl (RetB.of rfl HYB.out))

end Go.Proofs.YtbbeeglfgnabmaaDoor
