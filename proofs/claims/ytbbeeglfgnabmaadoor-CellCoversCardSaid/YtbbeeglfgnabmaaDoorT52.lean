/- What is moved, by the program and by the reference. -/
import Derived.Test.YtbbeeglfgnabmaaDoorT50
namespace Go.Proofs.YtbbeeglfgnabmaaDoor
set_option linter.all false
open Go.RowKit

def movedV (q : Ce.Rf × Bool) : Value := .tuple #[rv q.1, .bool q.2]

theorem wrap_out {x : Int} {n : Int} (hn : 0 ≤ n ∧ n ≤ 1000) (h : ¬ (0 ≤ x ∧ x < n)) (hx : -9223372036854775808 ≤ x ∧ x ≤ 9223372036854776807) : ¬ (0 ≤ wrap64 x ∧ wrap64 x < n) := by
  unfold wrap64
  omega

set_option maxHeartbeats 1000000 in
theorem ce_moved_no (c d : Int) (a b : Bool) (p q : Int) (w : World) (h : Ce.right ⟨c, d, a, b⟩ = false) :
    Calls Tryd.prog 16 #[.agg #[.int .i64 c, .int .i64 d, .bool a, .bool b], .int .i64 p, .int .i64 q] w (RetB (.tuple #[.agg #[.int .i64 0, .int .i64 0, .bool false, .bool false], .bool false]) w) := by
  have hr := fun w => ce_right_any c d a b w
  rw [h] at hr
  have HR := Lib.hid hr; clear hr h
  go_enter Tryd.func16, Tryd.ntmps16
  go_wp2_with (go_at_call 12; (with_reducible refine (HR.out _).mono ?_); rintro e w1 ⟨rfl, hb_w1⟩; have hB_w1 : Below (w).heap.size (w) w1 := Below.trans (by (repeat (first | exact Below.refl _ _ | assumption | refine Below.setCell ?_ (by first | omega | (simp <;> omega)) _ | refine Below.alloc ?_ (by first | omega | (simp <;> omega)) _ | refine Below.drew ?_ | refine below_drewN' ?_ _))) (hb_w1.mono (by first | omega | (simp <;> omega))); obtain ⟨hc_w1, hf_w1⟩ := bcell hb_w1; have hz_w1 := hb_w1.size; (try simp only [size_drew', size_drewN', World.size_alloc, World.size_setCell] at hz_w1); have hl0_w1 : w.heap.size < w1.heap.size := (by omega); have hm0_w1 : w.heap.size ≤ w1.heap.size := (by omega); have hn0_w1 : ¬ w.heap.size = w1.heap.size := (by omega); have hq0_w1 : ¬ w1.heap.size = w.heap.size := (by omega); have hr0_w1 := fun o => hc_w1 (w.heap.size) o (by (try simp only [size_drew', size_drewN', World.size_alloc, World.size_setCell]); omega); have hg0_w1 := fun o => hf_w1 (w.heap.size) o (by (try simp only [size_drew', size_drewN', World.size_alloc, World.size_setCell]); omega); have hl1_w1 : w.heap.size + 1 < w1.heap.size := (by omega); have hm1_w1 : w.heap.size + 1 ≤ w1.heap.size := (by omega); have hn1_w1 : ¬ w.heap.size + 1 = w1.heap.size := (by omega); have hq1_w1 : ¬ w1.heap.size = w.heap.size + 1 := (by omega); have hr1_w1 := fun o => hc_w1 (w.heap.size + 1) o (by (try simp only [size_drew', size_drewN', World.size_alloc, World.size_setCell]); omega); have hg1_w1 := fun o => hf_w1 (w.heap.size + 1) o (by (try simp only [size_drew', size_drewN', World.size_alloc, World.size_setCell]); omega))
  (refine bodyPost_ret (v := .tuple #[.agg #[.int .i64 0, .int .i64 0, .bool false, .bool false], .bool false]) (by (simp [results, Tryd.results16, go_sem, hr0_w1, hl0_w1, hm0_w1, hn0_w1, hq0_w1, hr1_w1, hl1_w1, hm1_w1, hn1_w1, hq1_w1]; done)) rfl (RetB.of rfl (by (repeat (first | exact Below.refl _ _ | assumption | refine Below.setCell ?_ (by first | omega | (simp <;> omega)) _ | refine Below.alloc ?_ (by first | omega | (simp <;> omega)) _ | refine Below.drew ?_ | refine below_drewN' ?_ _)))))

set_option maxHeartbeats 1000000 in
theorem ce_moved_rry (c d p q : Int) (w : World) (h : Ce.right ⟨c, d, false, false⟩ = true) (hp : -c ≤ p ∧ p < 64 - c) (hq : -d ≤ q ∧ q < 1000 - d) (h2 : Ce.right ⟨c + p, d + q, false, false⟩ = true) :
    Calls Tryd.prog 16 #[.agg #[.int .i64 c, .int .i64 d, .bool false, .bool false], .int .i64 p, .int .i64 q] w (RetB (.tuple #[.agg #[.int .i64 (c + p), .int .i64 (d + q), .bool false, .bool false], .bool true]) w) := by
  obtain ⟨g1, g2, g3, g4⟩ := (Ce.right_iff _).1 h
  simp only at g1 g2 g3 g4
  have hr := fun w => ce_right_any c d false false w
  have hs := fun w => ce_right_any (c + p) (d + q) false false w
  rw [h] at hr
  rw [h2] at hs
  have HR := Lib.hid hr; have HS := Lib.hid hs; clear hr hs h h2
  have tok1 : True := trivial
  obtain ⟨p1, p2⟩ := hp
  obtain ⟨q1, q2⟩ := hq
  go_enter Tryd.func16, Tryd.ntmps16
  go_wp2_with (first
    | (clear tok1; (go_at_call 12; (with_reducible refine (HR.out _).mono ?_); rintro e w1 ⟨rfl, hb_w1⟩; have hB_w1 : Below (w).heap.size (w) w1 := Below.trans (by (repeat (first | exact Below.refl _ _ | assumption | refine Below.setCell ?_ (by first | omega | (simp <;> omega)) _ | refine Below.alloc ?_ (by first | omega | (simp <;> omega)) _ | refine Below.drew ?_ | refine below_drewN' ?_ _))) (hb_w1.mono (by first | omega | (simp <;> omega))); obtain ⟨hc_w1, hf_w1⟩ := bcell hb_w1; have hz_w1 := hb_w1.size; (try simp only [size_drew', size_drewN', World.size_alloc, World.size_setCell] at hz_w1); have hl0_w1 : w.heap.size < w1.heap.size := (by omega); have hm0_w1 : w.heap.size ≤ w1.heap.size := (by omega); have hn0_w1 : ¬ w.heap.size = w1.heap.size := (by omega); have hq0_w1 : ¬ w1.heap.size = w.heap.size := (by omega); have hr0_w1 := fun o => hc_w1 (w.heap.size) o (by (try simp only [size_drew', size_drewN', World.size_alloc, World.size_setCell]); omega); have hg0_w1 := fun o => hf_w1 (w.heap.size) o (by (try simp only [size_drew', size_drewN', World.size_alloc, World.size_setCell]); omega); have hl1_w1 : w.heap.size + 1 < w1.heap.size := (by omega); have hm1_w1 : w.heap.size + 1 ≤ w1.heap.size := (by omega); have hn1_w1 : ¬ w.heap.size + 1 = w1.heap.size := (by omega); have hq1_w1 : ¬ w1.heap.size = w.heap.size + 1 := (by omega); have hr1_w1 := fun o => hc_w1 (w.heap.size + 1) o (by (try simp only [size_drew', size_drewN', World.size_alloc, World.size_setCell]); omega); have hg1_w1 := fun o => hf_w1 (w.heap.size + 1) o (by (try simp only [size_drew', size_drewN', World.size_alloc, World.size_setCell]); omega)))
    | (go_at_call 12; (with_reducible refine (HS.out _).mono ?_); rintro e w2 ⟨rfl, hb_w2⟩; have hB_w2 : Below (w).heap.size (w) w2 := Below.trans (by (repeat (first | exact Below.refl _ _ | assumption | refine Below.setCell ?_ (by first | omega | (simp <;> omega)) _ | refine Below.alloc ?_ (by first | omega | (simp <;> omega)) _ | refine Below.drew ?_ | refine below_drewN' ?_ _))) (hb_w2.mono (by first | omega | (simp <;> omega))); obtain ⟨hc_w2, hf_w2⟩ := bcell hb_w2; have hz_w2 := hb_w2.size; (try simp only [size_drew', size_drewN', World.size_alloc, World.size_setCell] at hz_w2); have hl0_w2 : w.heap.size < w2.heap.size := (by omega); have hm0_w2 : w.heap.size ≤ w2.heap.size := (by omega); have hn0_w2 : ¬ w.heap.size = w2.heap.size := (by omega); have hq0_w2 : ¬ w2.heap.size = w.heap.size := (by omega); have hr0_w2 := fun o => hc_w2 (w.heap.size) o (by (try simp only [size_drew', size_drewN', World.size_alloc, World.size_setCell]); omega); have hg0_w2 := fun o => hf_w2 (w.heap.size) o (by (try simp only [size_drew', size_drewN', World.size_alloc, World.size_setCell]); omega); have hl1_w2 : w.heap.size + 1 < w2.heap.size := (by omega); have hm1_w2 : w.heap.size + 1 ≤ w2.heap.size := (by omega); have hn1_w2 : ¬ w.heap.size + 1 = w2.heap.size := (by omega); have hq1_w2 : ¬ w2.heap.size = w.heap.size + 1 := (by omega); have hr1_w2 := fun o => hc_w2 (w.heap.size + 1) o (by (try simp only [size_drew', size_drewN', World.size_alloc, World.size_setCell]); omega); have hg1_w2 := fun o => hf_w2 (w.heap.size + 1) o (by (try simp only [size_drew', size_drewN', World.size_alloc, World.size_setCell]); omega)))
  (refine bodyPost_ret (v := .tuple #[.agg #[.int .i64 (c + p), .int .i64 (d + q), .bool false, .bool false], .bool true]) (by (simp [results, Tryd.results16, go_sem, hr0_w1, hl0_w1, hm0_w1, hn0_w1, hq0_w1, hr1_w1, hl1_w1, hm1_w1, hn1_w1, hq1_w1, hr0_w2, hl0_w2, hm0_w2, hn0_w2, hq0_w2, hr1_w2, hl1_w2, hm1_w2, hn1_w2, hq1_w2]; done)) rfl (RetB.of rfl (by (repeat (first | exact Below.refl _ _ | assumption | refine Below.setCell ?_ (by first | omega | (simp <;> omega)) _ | refine Below.alloc ?_ (by first | omega | (simp <;> omega)) _ | refine Below.drew ?_ | refine below_drewN' ?_ _)))))

set_option maxHeartbeats 1000000 in
theorem ce_moved_rrn (c d p q : Int) (w : World) (h : Ce.right ⟨c, d, false, false⟩ = true) (h2 : Ce.right ⟨wrap64 (c + p), wrap64 (d + q), false, false⟩ = false) :
    Calls Tryd.prog 16 #[.agg #[.int .i64 c, .int .i64 d, .bool false, .bool false], .int .i64 p, .int .i64 q] w (RetB (.tuple #[.agg #[.int .i64 0, .int .i64 0, .bool false, .bool false], .bool false]) w) := by
  obtain ⟨g1, g2, g3, g4⟩ := (Ce.right_iff _).1 h
  simp only at g1 g2 g3 g4
  have hr := fun w => ce_right_any c d false false w
  have hs := fun w => ce_right_any (wrap64 (c + p)) (wrap64 (d + q)) false false w
  rw [h] at hr
  rw [h2] at hs
  have HR := Lib.hid hr; have HS := Lib.hid hs; clear hr hs h h2
  have tok1 : True := trivial
  go_enter Tryd.func16, Tryd.ntmps16
  go_wp2_with (first
    | (clear tok1; (go_at_call 12; (with_reducible refine (HR.out _).mono ?_); rintro e w1 ⟨rfl, hb_w1⟩; have hB_w1 : Below (w).heap.size (w) w1 := Below.trans (by (repeat (first | exact Below.refl _ _ | assumption | refine Below.setCell ?_ (by first | omega | (simp <;> omega)) _ | refine Below.alloc ?_ (by first | omega | (simp <;> omega)) _ | refine Below.drew ?_ | refine below_drewN' ?_ _))) (hb_w1.mono (by first | omega | (simp <;> omega))); obtain ⟨hc_w1, hf_w1⟩ := bcell hb_w1; have hz_w1 := hb_w1.size; (try simp only [size_drew', size_drewN', World.size_alloc, World.size_setCell] at hz_w1); have hl0_w1 : w.heap.size < w1.heap.size := (by omega); have hm0_w1 : w.heap.size ≤ w1.heap.size := (by omega); have hn0_w1 : ¬ w.heap.size = w1.heap.size := (by omega); have hq0_w1 : ¬ w1.heap.size = w.heap.size := (by omega); have hr0_w1 := fun o => hc_w1 (w.heap.size) o (by (try simp only [size_drew', size_drewN', World.size_alloc, World.size_setCell]); omega); have hg0_w1 := fun o => hf_w1 (w.heap.size) o (by (try simp only [size_drew', size_drewN', World.size_alloc, World.size_setCell]); omega); have hl1_w1 : w.heap.size + 1 < w1.heap.size := (by omega); have hm1_w1 : w.heap.size + 1 ≤ w1.heap.size := (by omega); have hn1_w1 : ¬ w.heap.size + 1 = w1.heap.size := (by omega); have hq1_w1 : ¬ w1.heap.size = w.heap.size + 1 := (by omega); have hr1_w1 := fun o => hc_w1 (w.heap.size + 1) o (by (try simp only [size_drew', size_drewN', World.size_alloc, World.size_setCell]); omega); have hg1_w1 := fun o => hf_w1 (w.heap.size + 1) o (by (try simp only [size_drew', size_drewN', World.size_alloc, World.size_setCell]); omega)))
    | (go_at_call 12; (with_reducible refine (HS.out _).mono ?_); rintro e w2 ⟨rfl, hb_w2⟩; have hB_w2 : Below (w).heap.size (w) w2 := Below.trans (by (repeat (first | exact Below.refl _ _ | assumption | refine Below.setCell ?_ (by first | omega | (simp <;> omega)) _ | refine Below.alloc ?_ (by first | omega | (simp <;> omega)) _ | refine Below.drew ?_ | refine below_drewN' ?_ _))) (hb_w2.mono (by first | omega | (simp <;> omega))); obtain ⟨hc_w2, hf_w2⟩ := bcell hb_w2; have hz_w2 := hb_w2.size; (try simp only [size_drew', size_drewN', World.size_alloc, World.size_setCell] at hz_w2); have hl0_w2 : w.heap.size < w2.heap.size := (by omega); have hm0_w2 : w.heap.size ≤ w2.heap.size := (by omega); have hn0_w2 : ¬ w.heap.size = w2.heap.size := (by omega); have hq0_w2 : ¬ w2.heap.size = w.heap.size := (by omega); have hr0_w2 := fun o => hc_w2 (w.heap.size) o (by (try simp only [size_drew', size_drewN', World.size_alloc, World.size_setCell]); omega); have hg0_w2 := fun o => hf_w2 (w.heap.size) o (by (try simp only [size_drew', size_drewN', World.size_alloc, World.size_setCell]); omega); have hl1_w2 : w.heap.size + 1 < w2.heap.size := (by omega); have hm1_w2 : w.heap.size + 1 ≤ w2.heap.size := (by omega); have hn1_w2 : ¬ w.heap.size + 1 = w2.heap.size := (by omega); have hq1_w2 : ¬ w2.heap.size = w.heap.size + 1 := (by omega); have hr1_w2 := fun o => hc_w2 (w.heap.size + 1) o (by (try simp only [size_drew', size_drewN', World.size_alloc, World.size_setCell]); omega); have hg1_w2 := fun o => hf_w2 (w.heap.size + 1) o (by (try simp only [size_drew', size_drewN', World.size_alloc, World.size_setCell]); omega)))
  (refine bodyPost_ret (v := .tuple #[.agg #[.int .i64 0, .int .i64 0, .bool false, .bool false], .bool false]) (by (simp [results, Tryd.results16, go_sem, hr0_w1, hl0_w1, hm0_w1, hn0_w1, hq0_w1, hr1_w1, hl1_w1, hm1_w1, hn1_w1, hq1_w1, hr0_w2, hl0_w2, hm0_w2, hn0_w2, hq0_w2, hr1_w2, hl1_w2, hm1_w2, hn1_w2, hq1_w2]; done)) rfl (RetB.of rfl (by (repeat (first | exact Below.refl _ _ | assumption | refine Below.setCell ?_ (by first | omega | (simp <;> omega)) _ | refine Below.alloc ?_ (by first | omega | (simp <;> omega)) _ | refine Below.drew ?_ | refine below_drewN' ?_ _)))))

set_option maxHeartbeats 1000000 in
theorem ce_moved_ray (c d p q : Int) (w : World) (h : Ce.right ⟨c, d, false, true⟩ = true) (hp : -c ≤ p ∧ p < 64 - c) (h2 : Ce.right ⟨c + p, d, false, true⟩ = true) :
    Calls Tryd.prog 16 #[.agg #[.int .i64 c, .int .i64 d, .bool false, .bool true], .int .i64 p, .int .i64 q] w (RetB (.tuple #[.agg #[.int .i64 (c + p), .int .i64 (d), .bool false, .bool true], .bool true]) w) := by
  obtain ⟨g1, g2, g3, g4⟩ := (Ce.right_iff _).1 h
  simp only at g1 g2 g3 g4
  have hr := fun w => ce_right_any c d false true w
  have hs := fun w => ce_right_any (c + p) (d) false true w
  rw [h] at hr
  rw [h2] at hs
  have HR := Lib.hid hr; have HS := Lib.hid hs; clear hr hs h h2
  have tok1 : True := trivial
  obtain ⟨p1, p2⟩ := hp
  go_enter Tryd.func16, Tryd.ntmps16
  go_wp2_with (first
    | (clear tok1; (go_at_call 12; (with_reducible refine (HR.out _).mono ?_); rintro e w1 ⟨rfl, hb_w1⟩; have hB_w1 : Below (w).heap.size (w) w1 := Below.trans (by (repeat (first | exact Below.refl _ _ | assumption | refine Below.setCell ?_ (by first | omega | (simp <;> omega)) _ | refine Below.alloc ?_ (by first | omega | (simp <;> omega)) _ | refine Below.drew ?_ | refine below_drewN' ?_ _))) (hb_w1.mono (by first | omega | (simp <;> omega))); obtain ⟨hc_w1, hf_w1⟩ := bcell hb_w1; have hz_w1 := hb_w1.size; (try simp only [size_drew', size_drewN', World.size_alloc, World.size_setCell] at hz_w1); have hl0_w1 : w.heap.size < w1.heap.size := (by omega); have hm0_w1 : w.heap.size ≤ w1.heap.size := (by omega); have hn0_w1 : ¬ w.heap.size = w1.heap.size := (by omega); have hq0_w1 : ¬ w1.heap.size = w.heap.size := (by omega); have hr0_w1 := fun o => hc_w1 (w.heap.size) o (by (try simp only [size_drew', size_drewN', World.size_alloc, World.size_setCell]); omega); have hg0_w1 := fun o => hf_w1 (w.heap.size) o (by (try simp only [size_drew', size_drewN', World.size_alloc, World.size_setCell]); omega); have hl1_w1 : w.heap.size + 1 < w1.heap.size := (by omega); have hm1_w1 : w.heap.size + 1 ≤ w1.heap.size := (by omega); have hn1_w1 : ¬ w.heap.size + 1 = w1.heap.size := (by omega); have hq1_w1 : ¬ w1.heap.size = w.heap.size + 1 := (by omega); have hr1_w1 := fun o => hc_w1 (w.heap.size + 1) o (by (try simp only [size_drew', size_drewN', World.size_alloc, World.size_setCell]); omega); have hg1_w1 := fun o => hf_w1 (w.heap.size + 1) o (by (try simp only [size_drew', size_drewN', World.size_alloc, World.size_setCell]); omega)))
    | (go_at_call 12; (with_reducible refine (HS.out _).mono ?_); rintro e w2 ⟨rfl, hb_w2⟩; have hB_w2 : Below (w).heap.size (w) w2 := Below.trans (by (repeat (first | exact Below.refl _ _ | assumption | refine Below.setCell ?_ (by first | omega | (simp <;> omega)) _ | refine Below.alloc ?_ (by first | omega | (simp <;> omega)) _ | refine Below.drew ?_ | refine below_drewN' ?_ _))) (hb_w2.mono (by first | omega | (simp <;> omega))); obtain ⟨hc_w2, hf_w2⟩ := bcell hb_w2; have hz_w2 := hb_w2.size; (try simp only [size_drew', size_drewN', World.size_alloc, World.size_setCell] at hz_w2); have hl0_w2 : w.heap.size < w2.heap.size := (by omega); have hm0_w2 : w.heap.size ≤ w2.heap.size := (by omega); have hn0_w2 : ¬ w.heap.size = w2.heap.size := (by omega); have hq0_w2 : ¬ w2.heap.size = w.heap.size := (by omega); have hr0_w2 := fun o => hc_w2 (w.heap.size) o (by (try simp only [size_drew', size_drewN', World.size_alloc, World.size_setCell]); omega); have hg0_w2 := fun o => hf_w2 (w.heap.size) o (by (try simp only [size_drew', size_drewN', World.size_alloc, World.size_setCell]); omega); have hl1_w2 : w.heap.size + 1 < w2.heap.size := (by omega); have hm1_w2 : w.heap.size + 1 ≤ w2.heap.size := (by omega); have hn1_w2 : ¬ w.heap.size + 1 = w2.heap.size := (by omega); have hq1_w2 : ¬ w2.heap.size = w.heap.size + 1 := (by omega); have hr1_w2 := fun o => hc_w2 (w.heap.size + 1) o (by (try simp only [size_drew', size_drewN', World.size_alloc, World.size_setCell]); omega); have hg1_w2 := fun o => hf_w2 (w.heap.size + 1) o (by (try simp only [size_drew', size_drewN', World.size_alloc, World.size_setCell]); omega)))
  (refine bodyPost_ret (v := .tuple #[.agg #[.int .i64 (c + p), .int .i64 (d), .bool false, .bool true], .bool true]) (by (simp [results, Tryd.results16, go_sem, hr0_w1, hl0_w1, hm0_w1, hn0_w1, hq0_w1, hr1_w1, hl1_w1, hm1_w1, hn1_w1, hq1_w1, hr0_w2, hl0_w2, hm0_w2, hn0_w2, hq0_w2, hr1_w2, hl1_w2, hm1_w2, hn1_w2, hq1_w2]; done)) rfl (RetB.of rfl (by (repeat (first | exact Below.refl _ _ | assumption | refine Below.setCell ?_ (by first | omega | (simp <;> omega)) _ | refine Below.alloc ?_ (by first | omega | (simp <;> omega)) _ | refine Below.drew ?_ | refine below_drewN' ?_ _)))))

set_option maxHeartbeats 1000000 in
theorem ce_moved_ran (c d p q : Int) (w : World) (h : Ce.right ⟨c, d, false, true⟩ = true) (h2 : Ce.right ⟨wrap64 (c + p), d, false, true⟩ = false) :
    Calls Tryd.prog 16 #[.agg #[.int .i64 c, .int .i64 d, .bool false, .bool true], .int .i64 p, .int .i64 q] w (RetB (.tuple #[.agg #[.int .i64 0, .int .i64 0, .bool false, .bool false], .bool false]) w) := by
  obtain ⟨g1, g2, g3, g4⟩ := (Ce.right_iff _).1 h
  simp only at g1 g2 g3 g4
  have hr := fun w => ce_right_any c d false true w
  have hs := fun w => ce_right_any (wrap64 (c + p)) (d) false true w
  rw [h] at hr
  rw [h2] at hs
  have HR := Lib.hid hr; have HS := Lib.hid hs; clear hr hs h h2
  have tok1 : True := trivial
  go_enter Tryd.func16, Tryd.ntmps16
  go_wp2_with (first
    | (clear tok1; (go_at_call 12; (with_reducible refine (HR.out _).mono ?_); rintro e w1 ⟨rfl, hb_w1⟩; have hB_w1 : Below (w).heap.size (w) w1 := Below.trans (by (repeat (first | exact Below.refl _ _ | assumption | refine Below.setCell ?_ (by first | omega | (simp <;> omega)) _ | refine Below.alloc ?_ (by first | omega | (simp <;> omega)) _ | refine Below.drew ?_ | refine below_drewN' ?_ _))) (hb_w1.mono (by first | omega | (simp <;> omega))); obtain ⟨hc_w1, hf_w1⟩ := bcell hb_w1; have hz_w1 := hb_w1.size; (try simp only [size_drew', size_drewN', World.size_alloc, World.size_setCell] at hz_w1); have hl0_w1 : w.heap.size < w1.heap.size := (by omega); have hm0_w1 : w.heap.size ≤ w1.heap.size := (by omega); have hn0_w1 : ¬ w.heap.size = w1.heap.size := (by omega); have hq0_w1 : ¬ w1.heap.size = w.heap.size := (by omega); have hr0_w1 := fun o => hc_w1 (w.heap.size) o (by (try simp only [size_drew', size_drewN', World.size_alloc, World.size_setCell]); omega); have hg0_w1 := fun o => hf_w1 (w.heap.size) o (by (try simp only [size_drew', size_drewN', World.size_alloc, World.size_setCell]); omega); have hl1_w1 : w.heap.size + 1 < w1.heap.size := (by omega); have hm1_w1 : w.heap.size + 1 ≤ w1.heap.size := (by omega); have hn1_w1 : ¬ w.heap.size + 1 = w1.heap.size := (by omega); have hq1_w1 : ¬ w1.heap.size = w.heap.size + 1 := (by omega); have hr1_w1 := fun o => hc_w1 (w.heap.size + 1) o (by (try simp only [size_drew', size_drewN', World.size_alloc, World.size_setCell]); omega); have hg1_w1 := fun o => hf_w1 (w.heap.size + 1) o (by (try simp only [size_drew', size_drewN', World.size_alloc, World.size_setCell]); omega)))
    | (go_at_call 12; (with_reducible refine (HS.out _).mono ?_); rintro e w2 ⟨rfl, hb_w2⟩; have hB_w2 : Below (w).heap.size (w) w2 := Below.trans (by (repeat (first | exact Below.refl _ _ | assumption | refine Below.setCell ?_ (by first | omega | (simp <;> omega)) _ | refine Below.alloc ?_ (by first | omega | (simp <;> omega)) _ | refine Below.drew ?_ | refine below_drewN' ?_ _))) (hb_w2.mono (by first | omega | (simp <;> omega))); obtain ⟨hc_w2, hf_w2⟩ := bcell hb_w2; have hz_w2 := hb_w2.size; (try simp only [size_drew', size_drewN', World.size_alloc, World.size_setCell] at hz_w2); have hl0_w2 : w.heap.size < w2.heap.size := (by omega); have hm0_w2 : w.heap.size ≤ w2.heap.size := (by omega); have hn0_w2 : ¬ w.heap.size = w2.heap.size := (by omega); have hq0_w2 : ¬ w2.heap.size = w.heap.size := (by omega); have hr0_w2 := fun o => hc_w2 (w.heap.size) o (by (try simp only [size_drew', size_drewN', World.size_alloc, World.size_setCell]); omega); have hg0_w2 := fun o => hf_w2 (w.heap.size) o (by (try simp only [size_drew', size_drewN', World.size_alloc, World.size_setCell]); omega); have hl1_w2 : w.heap.size + 1 < w2.heap.size := (by omega); have hm1_w2 : w.heap.size + 1 ≤ w2.heap.size := (by omega); have hn1_w2 : ¬ w.heap.size + 1 = w2.heap.size := (by omega); have hq1_w2 : ¬ w2.heap.size = w.heap.size + 1 := (by omega); have hr1_w2 := fun o => hc_w2 (w.heap.size + 1) o (by (try simp only [size_drew', size_drewN', World.size_alloc, World.size_setCell]); omega); have hg1_w2 := fun o => hf_w2 (w.heap.size + 1) o (by (try simp only [size_drew', size_drewN', World.size_alloc, World.size_setCell]); omega)))
  (refine bodyPost_ret (v := .tuple #[.agg #[.int .i64 0, .int .i64 0, .bool false, .bool false], .bool false]) (by (simp [results, Tryd.results16, go_sem, hr0_w1, hl0_w1, hm0_w1, hn0_w1, hq0_w1, hr1_w1, hl1_w1, hm1_w1, hn1_w1, hq1_w1, hr0_w2, hl0_w2, hm0_w2, hn0_w2, hq0_w2, hr1_w2, hl1_w2, hm1_w2, hn1_w2, hq1_w2]; done)) rfl (RetB.of rfl (by (repeat (first | exact Below.refl _ _ | assumption | refine Below.setCell ?_ (by first | omega | (simp <;> omega)) _ | refine Below.alloc ?_ (by first | omega | (simp <;> omega)) _ | refine Below.drew ?_ | refine below_drewN' ?_ _)))))

set_option maxHeartbeats 1000000 in
theorem ce_moved_ary (c d p q : Int) (w : World) (h : Ce.right ⟨c, d, true, false⟩ = true) (hq : -d ≤ q ∧ q < 1000 - d) (h2 : Ce.right ⟨c, d + q, true, false⟩ = true) :
    Calls Tryd.prog 16 #[.agg #[.int .i64 c, .int .i64 d, .bool true, .bool false], .int .i64 p, .int .i64 q] w (RetB (.tuple #[.agg #[.int .i64 (c), .int .i64 (d + q), .bool true, .bool false], .bool true]) w) := by
  obtain ⟨g1, g2, g3, g4⟩ := (Ce.right_iff _).1 h
  simp only at g1 g2 g3 g4
  have hr := fun w => ce_right_any c d true false w
  have hs := fun w => ce_right_any (c) (d + q) true false w
  rw [h] at hr
  rw [h2] at hs
  have HR := Lib.hid hr; have HS := Lib.hid hs; clear hr hs h h2
  have tok1 : True := trivial
  obtain ⟨q1, q2⟩ := hq
  go_enter Tryd.func16, Tryd.ntmps16
  go_wp2_with (first
    | (clear tok1; (go_at_call 12; (with_reducible refine (HR.out _).mono ?_); rintro e w1 ⟨rfl, hb_w1⟩; have hB_w1 : Below (w).heap.size (w) w1 := Below.trans (by (repeat (first | exact Below.refl _ _ | assumption | refine Below.setCell ?_ (by first | omega | (simp <;> omega)) _ | refine Below.alloc ?_ (by first | omega | (simp <;> omega)) _ | refine Below.drew ?_ | refine below_drewN' ?_ _))) (hb_w1.mono (by first | omega | (simp <;> omega))); obtain ⟨hc_w1, hf_w1⟩ := bcell hb_w1; have hz_w1 := hb_w1.size; (try simp only [size_drew', size_drewN', World.size_alloc, World.size_setCell] at hz_w1); have hl0_w1 : w.heap.size < w1.heap.size := (by omega); have hm0_w1 : w.heap.size ≤ w1.heap.size := (by omega); have hn0_w1 : ¬ w.heap.size = w1.heap.size := (by omega); have hq0_w1 : ¬ w1.heap.size = w.heap.size := (by omega); have hr0_w1 := fun o => hc_w1 (w.heap.size) o (by (try simp only [size_drew', size_drewN', World.size_alloc, World.size_setCell]); omega); have hg0_w1 := fun o => hf_w1 (w.heap.size) o (by (try simp only [size_drew', size_drewN', World.size_alloc, World.size_setCell]); omega); have hl1_w1 : w.heap.size + 1 < w1.heap.size := (by omega); have hm1_w1 : w.heap.size + 1 ≤ w1.heap.size := (by omega); have hn1_w1 : ¬ w.heap.size + 1 = w1.heap.size := (by omega); have hq1_w1 : ¬ w1.heap.size = w.heap.size + 1 := (by omega); have hr1_w1 := fun o => hc_w1 (w.heap.size + 1) o (by (try simp only [size_drew', size_drewN', World.size_alloc, World.size_setCell]); omega); have hg1_w1 := fun o => hf_w1 (w.heap.size + 1) o (by (try simp only [size_drew', size_drewN', World.size_alloc, World.size_setCell]); omega)))
    | (go_at_call 12; (with_reducible refine (HS.out _).mono ?_); rintro e w2 ⟨rfl, hb_w2⟩; have hB_w2 : Below (w).heap.size (w) w2 := Below.trans (by (repeat (first | exact Below.refl _ _ | assumption | refine Below.setCell ?_ (by first | omega | (simp <;> omega)) _ | refine Below.alloc ?_ (by first | omega | (simp <;> omega)) _ | refine Below.drew ?_ | refine below_drewN' ?_ _))) (hb_w2.mono (by first | omega | (simp <;> omega))); obtain ⟨hc_w2, hf_w2⟩ := bcell hb_w2; have hz_w2 := hb_w2.size; (try simp only [size_drew', size_drewN', World.size_alloc, World.size_setCell] at hz_w2); have hl0_w2 : w.heap.size < w2.heap.size := (by omega); have hm0_w2 : w.heap.size ≤ w2.heap.size := (by omega); have hn0_w2 : ¬ w.heap.size = w2.heap.size := (by omega); have hq0_w2 : ¬ w2.heap.size = w.heap.size := (by omega); have hr0_w2 := fun o => hc_w2 (w.heap.size) o (by (try simp only [size_drew', size_drewN', World.size_alloc, World.size_setCell]); omega); have hg0_w2 := fun o => hf_w2 (w.heap.size) o (by (try simp only [size_drew', size_drewN', World.size_alloc, World.size_setCell]); omega); have hl1_w2 : w.heap.size + 1 < w2.heap.size := (by omega); have hm1_w2 : w.heap.size + 1 ≤ w2.heap.size := (by omega); have hn1_w2 : ¬ w.heap.size + 1 = w2.heap.size := (by omega); have hq1_w2 : ¬ w2.heap.size = w.heap.size + 1 := (by omega); have hr1_w2 := fun o => hc_w2 (w.heap.size + 1) o (by (try simp only [size_drew', size_drewN', World.size_alloc, World.size_setCell]); omega); have hg1_w2 := fun o => hf_w2 (w.heap.size + 1) o (by (try simp only [size_drew', size_drewN', World.size_alloc, World.size_setCell]); omega)))
  (refine bodyPost_ret (v := .tuple #[.agg #[.int .i64 (c), .int .i64 (d + q), .bool true, .bool false], .bool true]) (by (simp [results, Tryd.results16, go_sem, hr0_w1, hl0_w1, hm0_w1, hn0_w1, hq0_w1, hr1_w1, hl1_w1, hm1_w1, hn1_w1, hq1_w1, hr0_w2, hl0_w2, hm0_w2, hn0_w2, hq0_w2, hr1_w2, hl1_w2, hm1_w2, hn1_w2, hq1_w2]; done)) rfl (RetB.of rfl (by (repeat (first | exact Below.refl _ _ | assumption | refine Below.setCell ?_ (by first | omega | (simp <;> omega)) _ | refine Below.alloc ?_ (by first | omega | (simp <;> omega)) _ | refine Below.drew ?_ | refine below_drewN' ?_ _)))))

set_option maxHeartbeats 1000000 in
theorem ce_moved_arn (c d p q : Int) (w : World) (h : Ce.right ⟨c, d, true, false⟩ = true) (h2 : Ce.right ⟨c, wrap64 (d + q), true, false⟩ = false) :
    Calls Tryd.prog 16 #[.agg #[.int .i64 c, .int .i64 d, .bool true, .bool false], .int .i64 p, .int .i64 q] w (RetB (.tuple #[.agg #[.int .i64 0, .int .i64 0, .bool false, .bool false], .bool false]) w) := by
  obtain ⟨g1, g2, g3, g4⟩ := (Ce.right_iff _).1 h
  simp only at g1 g2 g3 g4
  have hr := fun w => ce_right_any c d true false w
  have hs := fun w => ce_right_any (c) (wrap64 (d + q)) true false w
  rw [h] at hr
  rw [h2] at hs
  have HR := Lib.hid hr; have HS := Lib.hid hs; clear hr hs h h2
  have tok1 : True := trivial
  go_enter Tryd.func16, Tryd.ntmps16
  go_wp2_with (first
    | (clear tok1; (go_at_call 12; (with_reducible refine (HR.out _).mono ?_); rintro e w1 ⟨rfl, hb_w1⟩; have hB_w1 : Below (w).heap.size (w) w1 := Below.trans (by (repeat (first | exact Below.refl _ _ | assumption | refine Below.setCell ?_ (by first | omega | (simp <;> omega)) _ | refine Below.alloc ?_ (by first | omega | (simp <;> omega)) _ | refine Below.drew ?_ | refine below_drewN' ?_ _))) (hb_w1.mono (by first | omega | (simp <;> omega))); obtain ⟨hc_w1, hf_w1⟩ := bcell hb_w1; have hz_w1 := hb_w1.size; (try simp only [size_drew', size_drewN', World.size_alloc, World.size_setCell] at hz_w1); have hl0_w1 : w.heap.size < w1.heap.size := (by omega); have hm0_w1 : w.heap.size ≤ w1.heap.size := (by omega); have hn0_w1 : ¬ w.heap.size = w1.heap.size := (by omega); have hq0_w1 : ¬ w1.heap.size = w.heap.size := (by omega); have hr0_w1 := fun o => hc_w1 (w.heap.size) o (by (try simp only [size_drew', size_drewN', World.size_alloc, World.size_setCell]); omega); have hg0_w1 := fun o => hf_w1 (w.heap.size) o (by (try simp only [size_drew', size_drewN', World.size_alloc, World.size_setCell]); omega); have hl1_w1 : w.heap.size + 1 < w1.heap.size := (by omega); have hm1_w1 : w.heap.size + 1 ≤ w1.heap.size := (by omega); have hn1_w1 : ¬ w.heap.size + 1 = w1.heap.size := (by omega); have hq1_w1 : ¬ w1.heap.size = w.heap.size + 1 := (by omega); have hr1_w1 := fun o => hc_w1 (w.heap.size + 1) o (by (try simp only [size_drew', size_drewN', World.size_alloc, World.size_setCell]); omega); have hg1_w1 := fun o => hf_w1 (w.heap.size + 1) o (by (try simp only [size_drew', size_drewN', World.size_alloc, World.size_setCell]); omega)))
    | (go_at_call 12; (with_reducible refine (HS.out _).mono ?_); rintro e w2 ⟨rfl, hb_w2⟩; have hB_w2 : Below (w).heap.size (w) w2 := Below.trans (by (repeat (first | exact Below.refl _ _ | assumption | refine Below.setCell ?_ (by first | omega | (simp <;> omega)) _ | refine Below.alloc ?_ (by first | omega | (simp <;> omega)) _ | refine Below.drew ?_ | refine below_drewN' ?_ _))) (hb_w2.mono (by first | omega | (simp <;> omega))); obtain ⟨hc_w2, hf_w2⟩ := bcell hb_w2; have hz_w2 := hb_w2.size; (try simp only [size_drew', size_drewN', World.size_alloc, World.size_setCell] at hz_w2); have hl0_w2 : w.heap.size < w2.heap.size := (by omega); have hm0_w2 : w.heap.size ≤ w2.heap.size := (by omega); have hn0_w2 : ¬ w.heap.size = w2.heap.size := (by omega); have hq0_w2 : ¬ w2.heap.size = w.heap.size := (by omega); have hr0_w2 := fun o => hc_w2 (w.heap.size) o (by (try simp only [size_drew', size_drewN', World.size_alloc, World.size_setCell]); omega); have hg0_w2 := fun o => hf_w2 (w.heap.size) o (by (try simp only [size_drew', size_drewN', World.size_alloc, World.size_setCell]); omega); have hl1_w2 : w.heap.size + 1 < w2.heap.size := (by omega); have hm1_w2 : w.heap.size + 1 ≤ w2.heap.size := (by omega); have hn1_w2 : ¬ w.heap.size + 1 = w2.heap.size := (by omega); have hq1_w2 : ¬ w2.heap.size = w.heap.size + 1 := (by omega); have hr1_w2 := fun o => hc_w2 (w.heap.size + 1) o (by (try simp only [size_drew', size_drewN', World.size_alloc, World.size_setCell]); omega); have hg1_w2 := fun o => hf_w2 (w.heap.size + 1) o (by (try simp only [size_drew', size_drewN', World.size_alloc, World.size_setCell]); omega)))
  (refine bodyPost_ret (v := .tuple #[.agg #[.int .i64 0, .int .i64 0, .bool false, .bool false], .bool false]) (by (simp [results, Tryd.results16, go_sem, hr0_w1, hl0_w1, hm0_w1, hn0_w1, hq0_w1, hr1_w1, hl1_w1, hm1_w1, hn1_w1, hq1_w1, hr0_w2, hl0_w2, hm0_w2, hn0_w2, hq0_w2, hr1_w2, hl1_w2, hm1_w2, hn1_w2, hq1_w2]; done)) rfl (RetB.of rfl (by (repeat (first | exact Below.refl _ _ | assumption | refine Below.setCell ?_ (by first | omega | (simp <;> omega)) _ | refine Below.alloc ?_ (by first | omega | (simp <;> omega)) _ | refine Below.drew ?_ | refine below_drewN' ?_ _)))))

set_option maxHeartbeats 1000000 in
theorem ce_moved_aay (c d p q : Int) (w : World) (h : Ce.right ⟨c, d, true, true⟩ = true) (h2 : Ce.right ⟨c, d, true, true⟩ = true) :
    Calls Tryd.prog 16 #[.agg #[.int .i64 c, .int .i64 d, .bool true, .bool true], .int .i64 p, .int .i64 q] w (RetB (.tuple #[.agg #[.int .i64 (c), .int .i64 (d), .bool true, .bool true], .bool true]) w) := by
  obtain ⟨g1, g2, g3, g4⟩ := (Ce.right_iff _).1 h
  simp only at g1 g2 g3 g4
  have hr := fun w => ce_right_any c d true true w
  have hs := fun w => ce_right_any (c) (d) true true w
  rw [h] at hr
  rw [h2] at hs
  have HR := Lib.hid hr; have HS := Lib.hid hs; clear hr hs h h2
  have tok1 : True := trivial
  go_enter Tryd.func16, Tryd.ntmps16
  go_wp2_with (first
    | (clear tok1; (go_at_call 12; (with_reducible refine (HR.out _).mono ?_); rintro e w1 ⟨rfl, hb_w1⟩; have hB_w1 : Below (w).heap.size (w) w1 := Below.trans (by (repeat (first | exact Below.refl _ _ | assumption | refine Below.setCell ?_ (by first | omega | (simp <;> omega)) _ | refine Below.alloc ?_ (by first | omega | (simp <;> omega)) _ | refine Below.drew ?_ | refine below_drewN' ?_ _))) (hb_w1.mono (by first | omega | (simp <;> omega))); obtain ⟨hc_w1, hf_w1⟩ := bcell hb_w1; have hz_w1 := hb_w1.size; (try simp only [size_drew', size_drewN', World.size_alloc, World.size_setCell] at hz_w1); have hl0_w1 : w.heap.size < w1.heap.size := (by omega); have hm0_w1 : w.heap.size ≤ w1.heap.size := (by omega); have hn0_w1 : ¬ w.heap.size = w1.heap.size := (by omega); have hq0_w1 : ¬ w1.heap.size = w.heap.size := (by omega); have hr0_w1 := fun o => hc_w1 (w.heap.size) o (by (try simp only [size_drew', size_drewN', World.size_alloc, World.size_setCell]); omega); have hg0_w1 := fun o => hf_w1 (w.heap.size) o (by (try simp only [size_drew', size_drewN', World.size_alloc, World.size_setCell]); omega); have hl1_w1 : w.heap.size + 1 < w1.heap.size := (by omega); have hm1_w1 : w.heap.size + 1 ≤ w1.heap.size := (by omega); have hn1_w1 : ¬ w.heap.size + 1 = w1.heap.size := (by omega); have hq1_w1 : ¬ w1.heap.size = w.heap.size + 1 := (by omega); have hr1_w1 := fun o => hc_w1 (w.heap.size + 1) o (by (try simp only [size_drew', size_drewN', World.size_alloc, World.size_setCell]); omega); have hg1_w1 := fun o => hf_w1 (w.heap.size + 1) o (by (try simp only [size_drew', size_drewN', World.size_alloc, World.size_setCell]); omega)))
    | (go_at_call 12; (with_reducible refine (HS.out _).mono ?_); rintro e w2 ⟨rfl, hb_w2⟩; have hB_w2 : Below (w).heap.size (w) w2 := Below.trans (by (repeat (first | exact Below.refl _ _ | assumption | refine Below.setCell ?_ (by first | omega | (simp <;> omega)) _ | refine Below.alloc ?_ (by first | omega | (simp <;> omega)) _ | refine Below.drew ?_ | refine below_drewN' ?_ _))) (hb_w2.mono (by first | omega | (simp <;> omega))); obtain ⟨hc_w2, hf_w2⟩ := bcell hb_w2; have hz_w2 := hb_w2.size; (try simp only [size_drew', size_drewN', World.size_alloc, World.size_setCell] at hz_w2); have hl0_w2 : w.heap.size < w2.heap.size := (by omega); have hm0_w2 : w.heap.size ≤ w2.heap.size := (by omega); have hn0_w2 : ¬ w.heap.size = w2.heap.size := (by omega); have hq0_w2 : ¬ w2.heap.size = w.heap.size := (by omega); have hr0_w2 := fun o => hc_w2 (w.heap.size) o (by (try simp only [size_drew', size_drewN', World.size_alloc, World.size_setCell]); omega); have hg0_w2 := fun o => hf_w2 (w.heap.size) o (by (try simp only [size_drew', size_drewN', World.size_alloc, World.size_setCell]); omega); have hl1_w2 : w.heap.size + 1 < w2.heap.size := (by omega); have hm1_w2 : w.heap.size + 1 ≤ w2.heap.size := (by omega); have hn1_w2 : ¬ w.heap.size + 1 = w2.heap.size := (by omega); have hq1_w2 : ¬ w2.heap.size = w.heap.size + 1 := (by omega); have hr1_w2 := fun o => hc_w2 (w.heap.size + 1) o (by (try simp only [size_drew', size_drewN', World.size_alloc, World.size_setCell]); omega); have hg1_w2 := fun o => hf_w2 (w.heap.size + 1) o (by (try simp only [size_drew', size_drewN', World.size_alloc, World.size_setCell]); omega)))
  (refine bodyPost_ret (v := .tuple #[.agg #[.int .i64 (c), .int .i64 (d), .bool true, .bool true], .bool true]) (by (simp [results, Tryd.results16, go_sem, hr0_w1, hl0_w1, hm0_w1, hn0_w1, hq0_w1, hr1_w1, hl1_w1, hm1_w1, hn1_w1, hq1_w1, hr0_w2, hl0_w2, hm0_w2, hn0_w2, hq0_w2, hr1_w2, hl1_w2, hm1_w2, hn1_w2, hq1_w2]; done)) rfl (RetB.of rfl (by (repeat (first | exact Below.refl _ _ | assumption | refine Below.setCell ?_ (by first | omega | (simp <;> omega)) _ | refine Below.alloc ?_ (by first | omega | (simp <;> omega)) _ | refine Below.drew ?_ | refine below_drewN' ?_ _)))))

set_option maxHeartbeats 1000000 in
theorem ce_moved_aan (c d p q : Int) (w : World) (h : Ce.right ⟨c, d, true, true⟩ = true) (h2 : Ce.right ⟨c, d, true, true⟩ = false) :
    Calls Tryd.prog 16 #[.agg #[.int .i64 c, .int .i64 d, .bool true, .bool true], .int .i64 p, .int .i64 q] w (RetB (.tuple #[.agg #[.int .i64 0, .int .i64 0, .bool false, .bool false], .bool false]) w) := by
  obtain ⟨g1, g2, g3, g4⟩ := (Ce.right_iff _).1 h
  simp only at g1 g2 g3 g4
  have hr := fun w => ce_right_any c d true true w
  have hs := fun w => ce_right_any (c) (d) true true w
  rw [h] at hr
  rw [h2] at hs
  have HR := Lib.hid hr; have HS := Lib.hid hs; clear hr hs h h2
  have tok1 : True := trivial
  go_enter Tryd.func16, Tryd.ntmps16
  go_wp2_with (first
    | (clear tok1; (go_at_call 12; (with_reducible refine (HR.out _).mono ?_); rintro e w1 ⟨rfl, hb_w1⟩; have hB_w1 : Below (w).heap.size (w) w1 := Below.trans (by (repeat (first | exact Below.refl _ _ | assumption | refine Below.setCell ?_ (by first | omega | (simp <;> omega)) _ | refine Below.alloc ?_ (by first | omega | (simp <;> omega)) _ | refine Below.drew ?_ | refine below_drewN' ?_ _))) (hb_w1.mono (by first | omega | (simp <;> omega))); obtain ⟨hc_w1, hf_w1⟩ := bcell hb_w1; have hz_w1 := hb_w1.size; (try simp only [size_drew', size_drewN', World.size_alloc, World.size_setCell] at hz_w1); have hl0_w1 : w.heap.size < w1.heap.size := (by omega); have hm0_w1 : w.heap.size ≤ w1.heap.size := (by omega); have hn0_w1 : ¬ w.heap.size = w1.heap.size := (by omega); have hq0_w1 : ¬ w1.heap.size = w.heap.size := (by omega); have hr0_w1 := fun o => hc_w1 (w.heap.size) o (by (try simp only [size_drew', size_drewN', World.size_alloc, World.size_setCell]); omega); have hg0_w1 := fun o => hf_w1 (w.heap.size) o (by (try simp only [size_drew', size_drewN', World.size_alloc, World.size_setCell]); omega); have hl1_w1 : w.heap.size + 1 < w1.heap.size := (by omega); have hm1_w1 : w.heap.size + 1 ≤ w1.heap.size := (by omega); have hn1_w1 : ¬ w.heap.size + 1 = w1.heap.size := (by omega); have hq1_w1 : ¬ w1.heap.size = w.heap.size + 1 := (by omega); have hr1_w1 := fun o => hc_w1 (w.heap.size + 1) o (by (try simp only [size_drew', size_drewN', World.size_alloc, World.size_setCell]); omega); have hg1_w1 := fun o => hf_w1 (w.heap.size + 1) o (by (try simp only [size_drew', size_drewN', World.size_alloc, World.size_setCell]); omega)))
    | (go_at_call 12; (with_reducible refine (HS.out _).mono ?_); rintro e w2 ⟨rfl, hb_w2⟩; have hB_w2 : Below (w).heap.size (w) w2 := Below.trans (by (repeat (first | exact Below.refl _ _ | assumption | refine Below.setCell ?_ (by first | omega | (simp <;> omega)) _ | refine Below.alloc ?_ (by first | omega | (simp <;> omega)) _ | refine Below.drew ?_ | refine below_drewN' ?_ _))) (hb_w2.mono (by first | omega | (simp <;> omega))); obtain ⟨hc_w2, hf_w2⟩ := bcell hb_w2; have hz_w2 := hb_w2.size; (try simp only [size_drew', size_drewN', World.size_alloc, World.size_setCell] at hz_w2); have hl0_w2 : w.heap.size < w2.heap.size := (by omega); have hm0_w2 : w.heap.size ≤ w2.heap.size := (by omega); have hn0_w2 : ¬ w.heap.size = w2.heap.size := (by omega); have hq0_w2 : ¬ w2.heap.size = w.heap.size := (by omega); have hr0_w2 := fun o => hc_w2 (w.heap.size) o (by (try simp only [size_drew', size_drewN', World.size_alloc, World.size_setCell]); omega); have hg0_w2 := fun o => hf_w2 (w.heap.size) o (by (try simp only [size_drew', size_drewN', World.size_alloc, World.size_setCell]); omega); have hl1_w2 : w.heap.size + 1 < w2.heap.size := (by omega); have hm1_w2 : w.heap.size + 1 ≤ w2.heap.size := (by omega); have hn1_w2 : ¬ w.heap.size + 1 = w2.heap.size := (by omega); have hq1_w2 : ¬ w2.heap.size = w.heap.size + 1 := (by omega); have hr1_w2 := fun o => hc_w2 (w.heap.size + 1) o (by (try simp only [size_drew', size_drewN', World.size_alloc, World.size_setCell]); omega); have hg1_w2 := fun o => hf_w2 (w.heap.size + 1) o (by (try simp only [size_drew', size_drewN', World.size_alloc, World.size_setCell]); omega)))
  (refine bodyPost_ret (v := .tuple #[.agg #[.int .i64 0, .int .i64 0, .bool false, .bool false], .bool false]) (by (simp [results, Tryd.results16, go_sem, hr0_w1, hl0_w1, hm0_w1, hn0_w1, hq0_w1, hr1_w1, hl1_w1, hm1_w1, hn1_w1, hq1_w1, hr0_w2, hl0_w2, hm0_w2, hn0_w2, hq0_w2, hr1_w2, hl1_w2, hm1_w2, hn1_w2, hq1_w2]; done)) rfl (RetB.of rfl (by (repeat (first | exact Below.refl _ _ | assumption | refine Below.setCell ?_ (by first | omega | (simp <;> omega)) _ | refine Below.alloc ?_ (by first | omega | (simp <;> omega)) _ | refine Below.drew ?_ | refine below_drewN' ?_ _)))))

theorem ce_moved_any (c d : Int) (a b : Bool) (p q : Int) (w : World) (hp : -9223372036854775808 ≤ p ∧ p ≤ 9223372036854775807) (hq : -9223372036854775808 ≤ q ∧ q ≤ 9223372036854775807) :
    Calls Tryd.prog 16 #[.agg #[.int .i64 c, .int .i64 d, .bool a, .bool b], .int .i64 p, .int .i64 q] w (RetB (movedV (Ce.moved ⟨c, d, a, b⟩ p q)) w) := by
  cases h : Ce.right ⟨c, d, a, b⟩ with
  | false =>
    have he : movedV (Ce.moved ⟨c, d, a, b⟩ p q) = .tuple #[.agg #[.int .i64 0, .int .i64 0, .bool false, .bool false], .bool false] := by rw [Ce.moved, if_neg (by rw [h]; simp)]; rfl
    rw [he]; exact ce_moved_no c d a b p q w h
  | true =>
    obtain ⟨g1, g2, g3, g4⟩ := (Ce.right_iff _).1 h
    simp only at g1 g2 g3 g4
    have hpw := fun hh => wrap_out (x := c + p) (n := 64) (by omega) hh (by omega)
    have hqw := fun hh => wrap_out (x := d + q) (n := 1000) (by omega) hh (by omega)
    unfold Ce.moved
    rw [if_pos h]
    cases a <;> cases b <;> simp only [Ce.mv, Bool.false_eq_true, if_false, if_true]
    · by_cases hb : (p < -c ∨ 64 - c ≤ p) ∨ (q < -d ∨ 1000 - d ≤ q)
      · rw [if_neg (by rw [Ce.right_iff]; simp only; split <;> (try split) <;> omega)]
        refine ce_moved_rrn c d p q w h ?_
        cases hv : Ce.right ⟨wrap64 (c + p), wrap64 (d + q), false, false⟩ with
        | false => rfl
        | true =>
          have hv2 := (Ce.right_iff _).1 hv
          simp only at hv2
          exfalso
          rcases hb with hb | hb
          · exact hpw (by omega) ⟨hv2.1, hv2.2.1⟩
          · exact hqw (by omega) ⟨hv2.2.2.1, hv2.2.2.2⟩
      · rw [if_neg (show ¬ (p < -c ∨ 64 - c ≤ p) by omega)]; rw [if_neg (show ¬ (q < -d ∨ 1000 - d ≤ q) by omega)]
        have hy : Ce.right ⟨c + p, d + q, false, false⟩ = true := by rw [Ce.right_iff]; simp only; omega
        rw [if_pos hy]
        exact ce_moved_rry c d p q w h (by omega) (by omega) hy
    · by_cases hb : (p < -c ∨ 64 - c ≤ p)
      · rw [if_neg (by rw [Ce.right_iff]; simp only; split <;> omega)]
        refine ce_moved_ran c d p q w h ?_
        cases hv : Ce.right ⟨wrap64 (c + p), d, false, true⟩ with
        | false => rfl
        | true =>
          have hv2 := (Ce.right_iff _).1 hv
          simp only at hv2
          exfalso
          exact hpw (by omega) ⟨hv2.1, hv2.2.1⟩
      · rw [if_neg (show ¬ (p < -c ∨ 64 - c ≤ p) by omega)]
        have hy : Ce.right ⟨c + p, d, false, true⟩ = true := by rw [Ce.right_iff]; simp only; omega
        rw [if_pos hy]
        exact ce_moved_ray c d p q w h (by omega) hy
    · by_cases hb : (q < -d ∨ 1000 - d ≤ q)
      · rw [if_neg (by rw [Ce.right_iff]; simp only; split <;> omega)]
        refine ce_moved_arn c d p q w h ?_
        cases hv : Ce.right ⟨c, wrap64 (d + q), true, false⟩ with
        | false => rfl
        | true =>
          have hv2 := (Ce.right_iff _).1 hv
          simp only at hv2
          exfalso
          exact hqw (by omega) ⟨hv2.2.2.1, hv2.2.2.2⟩
      · rw [if_neg (show ¬ (q < -d ∨ 1000 - d ≤ q) by omega)]
        have hy : Ce.right ⟨c, d + q, true, false⟩ = true := by rw [Ce.right_iff]; simp only; omega
        rw [if_pos hy]
        exact ce_moved_ary c d p q w h (by omega) hy
    · rw [if_pos h]
      exact ce_moved_aay c d p q w h h
end Go.Proofs.YtbbeeglfgnabmaaDoor
