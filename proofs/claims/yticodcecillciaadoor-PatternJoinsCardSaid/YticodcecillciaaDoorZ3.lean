/- Patterns in the program: the shape of a section's items: the ways that look at the numbers of the kinds alone. (Printed by gen/mkp8.py.) -/
import Derived.Test.YticodcecillciaaDoorZ2
namespace Go.Proofs.YticodcecillciaaDoor
set_option linter.all false
open Go.RowKit

set_option maxRecDepth 100000 in
set_option maxHeartbeats 2000000 in
theorem shp_a (vi : Value) (g : Bool) (sc : Int) (c0 c1 c2 c3 c4 c5 c6 c7 c8 c9 : Nat) (w : World) (hb : c2 ≤ 1000000 ∧ c3 ≤ 1000000 ∧ c4 ≤ 1000000 ∧ c5 ≤ 1000000 ∧ c6 ≤ 1000000 ∧ c7 ≤ 1000000 ∧ c8 ≤ 1000000)
    (hc : 0 < c7 + c8 ∧ 0 < c2 + c3 + c4 + c5 + c6) :
    Calls Tryd.prog 21 #[.agg #[vi, .bool g, .int .i64 sc], .agg #[.int .i64 c0, .int .i64 c1, .int .i64 c2, .int .i64 c3, .int .i64 c4, .int .i64 c5, .int .i64 c6, .int .i64 c7, .int .i64 c8, .int .i64 c9]] w (RetB (.int .i64 0) w) := by
  obtain ⟨C0, hC0⟩ : ∃ C : Int, C = (c0 : Int) := ⟨_, rfl⟩
  obtain ⟨C1, hC1⟩ : ∃ C : Int, C = (c1 : Int) := ⟨_, rfl⟩
  obtain ⟨C2, hC2⟩ : ∃ C : Int, C = (c2 : Int) := ⟨_, rfl⟩
  obtain ⟨C3, hC3⟩ : ∃ C : Int, C = (c3 : Int) := ⟨_, rfl⟩
  obtain ⟨C4, hC4⟩ : ∃ C : Int, C = (c4 : Int) := ⟨_, rfl⟩
  obtain ⟨C5, hC5⟩ : ∃ C : Int, C = (c5 : Int) := ⟨_, rfl⟩
  obtain ⟨C6, hC6⟩ : ∃ C : Int, C = (c6 : Int) := ⟨_, rfl⟩
  obtain ⟨C7, hC7⟩ : ∃ C : Int, C = (c7 : Int) := ⟨_, rfl⟩
  obtain ⟨C8, hC8⟩ : ∃ C : Int, C = (c8 : Int) := ⟨_, rfl⟩
  obtain ⟨C9, hC9⟩ : ∃ C : Int, C = (c9 : Int) := ⟨_, rfl⟩
  rw [← hC0, ← hC1, ← hC2, ← hC3, ← hC4, ← hC5, ← hC6, ← hC7, ← hC8, ← hC9]
  obtain ⟨N, hN⟩ : ∃ N, C2 + C3 + C4 + C5 + C6 = N := ⟨_, rfl⟩
  first | (have p1 : decide (0 < C7 + C8) = true := decide_eq_true (by omega)) | (have p1 : decide (0 < C7 + C8) = false := decide_eq_false (by omega)) | skip
  first | (have pN : decide (0 < N) = true := decide_eq_true (by omega)) | (have pN : decide (0 < N) = false := decide_eq_false (by omega)) | skip
  first | (have e71 : (C7 == 1) = true := beq_iff_eq.2 (by omega)) | (have e71 : (C7 == 1) = false := beq_eq_false_iff_ne.2 (by omega)) | skip
  first | (have e80 : (C8 == 0) = true := beq_iff_eq.2 (by omega)) | (have e80 : (C8 == 0) = false := beq_eq_false_iff_ne.2 (by omega)) | skip
  first | (have e70 : (C7 == 0) = true := beq_iff_eq.2 (by omega)) | (have e70 : (C7 == 0) = false := beq_eq_false_iff_ne.2 (by omega)) | skip
  first | (have p8 : decide (0 < C8) = true := decide_eq_true (by omega)) | (have p8 : decide (0 < C8) = false := decide_eq_false (by omega)) | skip
  first | (have e90 : (C9 == 0) = true := beq_iff_eq.2 (by omega)) | (have e90 : (C9 == 0) = false := beq_eq_false_iff_ne.2 (by omega)) | skip
  first | (have eN0 : (N == 0) = true := beq_iff_eq.2 (by omega)) | (have eN0 : (N == 0) = false := beq_eq_false_iff_ne.2 (by omega)) | skip
  first | (have e61 : (C6 == 1) = true := beq_iff_eq.2 (by omega)) | (have e61 : (C6 == 1) = false := beq_eq_false_iff_ne.2 (by omega)) | skip
  first | (have s0 : (C3 + C4 + C5 == 0) = true := beq_iff_eq.2 (by omega)) | (have s0 : (C3 + C4 + C5 == 0) = false := beq_eq_false_iff_ne.2 (by omega)) | skip
  first | (have e60 : (C6 == 0) = true := beq_iff_eq.2 (by omega)) | (have e60 : (C6 == 0) = false := beq_eq_false_iff_ne.2 (by omega)) | skip
  first | (have p2 : decide (0 < C2) = true := decide_eq_true (by omega)) | (have p2 : decide (0 < C2) = false := decide_eq_false (by omega)) | skip
  first | (have l3 : decide (C3 ≤ 1) = true := decide_eq_true (by omega)) | (have l3 : decide (C3 ≤ 1) = false := decide_eq_false (by omega)) | skip
  first | (have l4 : decide (C4 ≤ 1) = true := decide_eq_true (by omega)) | (have l4 : decide (C4 ≤ 1) = false := decide_eq_false (by omega)) | skip
  first | (have l5 : decide (C5 ≤ 1) = true := decide_eq_true (by omega)) | (have l5 : decide (C5 ≤ 1) = false := decide_eq_false (by omega)) | skip
  have w1 : 0 ≤ C2 ∧ C2 ≤ 1000000 := by omega
  have w2 : 0 ≤ C3 ∧ C3 ≤ 1000000 := by omega
  have w3 : 0 ≤ C4 ∧ C4 ≤ 1000000 := by omega
  have w4 : 0 ≤ C5 ∧ C5 ≤ 1000000 := by omega
  have w5 : 0 ≤ C6 ∧ C6 ≤ 1000000 := by omega
  have w6 : 0 ≤ C7 ∧ C7 ≤ 1000000 := by omega
  have w7 : 0 ≤ C8 ∧ C8 ≤ 1000000 := by omega
  obtain ⟨⟨x1, y1⟩, ⟨x2, y2⟩, ⟨x3, y3⟩, ⟨x4, y4⟩, ⟨x5, y5⟩, ⟨x6, y6⟩, ⟨x7, y7⟩⟩ := (⟨w1, w2, w3, w4, w5, w6, w7⟩ : _ ∧ _ ∧ _ ∧ _ ∧ _ ∧ _ ∧ _)
  clear w1 w2 w3 w4 w5 w6 w7 hc hb hC0 hC1 hC2 hC3 hC4 hC5 hC6 hC7 hC8 hC9
  go_enter Tryd.func21, Tryd.ntmps21
  go_wp2_with fail
  go_ret
  exact RetB.of rfl (by (repeat (first | exact Below.refl _ _ | assumption | refine Below.setCell ?_ (by first | omega | (simp <;> omega)) _ | refine Below.alloc ?_ (by first | omega | (simp <;> omega)) _ | refine Below.drew ?_ | refine below_drewN' ?_ _)))

set_option maxRecDepth 100000 in
set_option maxHeartbeats 2000000 in
theorem shp_b1 (vi : Value) (g : Bool) (sc : Int) (c0 c1 c2 c3 c4 c5 c6 c7 c8 c9 : Nat) (w : World) (hb : c2 ≤ 1000000 ∧ c3 ≤ 1000000 ∧ c4 ≤ 1000000 ∧ c5 ≤ 1000000 ∧ c6 ≤ 1000000 ∧ c7 ≤ 1000000 ∧ c8 ≤ 1000000)
    (hc : c7 = 1 ∧ c8 = 0 ∧ c2 + c3 + c4 + c5 + c6 = 0) :
    Calls Tryd.prog 21 #[.agg #[vi, .bool g, .int .i64 sc], .agg #[.int .i64 c0, .int .i64 c1, .int .i64 c2, .int .i64 c3, .int .i64 c4, .int .i64 c5, .int .i64 c6, .int .i64 c7, .int .i64 c8, .int .i64 c9]] w (RetB (.int .i64 5) w) := by
  obtain ⟨C0, hC0⟩ : ∃ C : Int, C = (c0 : Int) := ⟨_, rfl⟩
  obtain ⟨C1, hC1⟩ : ∃ C : Int, C = (c1 : Int) := ⟨_, rfl⟩
  obtain ⟨C2, hC2⟩ : ∃ C : Int, C = (c2 : Int) := ⟨_, rfl⟩
  obtain ⟨C3, hC3⟩ : ∃ C : Int, C = (c3 : Int) := ⟨_, rfl⟩
  obtain ⟨C4, hC4⟩ : ∃ C : Int, C = (c4 : Int) := ⟨_, rfl⟩
  obtain ⟨C5, hC5⟩ : ∃ C : Int, C = (c5 : Int) := ⟨_, rfl⟩
  obtain ⟨C6, hC6⟩ : ∃ C : Int, C = (c6 : Int) := ⟨_, rfl⟩
  obtain ⟨C7, hC7⟩ : ∃ C : Int, C = (c7 : Int) := ⟨_, rfl⟩
  obtain ⟨C8, hC8⟩ : ∃ C : Int, C = (c8 : Int) := ⟨_, rfl⟩
  obtain ⟨C9, hC9⟩ : ∃ C : Int, C = (c9 : Int) := ⟨_, rfl⟩
  rw [← hC0, ← hC1, ← hC2, ← hC3, ← hC4, ← hC5, ← hC6, ← hC7, ← hC8, ← hC9]
  obtain ⟨N, hN⟩ : ∃ N, C2 + C3 + C4 + C5 + C6 = N := ⟨_, rfl⟩
  first | (have p1 : decide (0 < C7 + C8) = true := decide_eq_true (by omega)) | (have p1 : decide (0 < C7 + C8) = false := decide_eq_false (by omega)) | skip
  first | (have pN : decide (0 < N) = true := decide_eq_true (by omega)) | (have pN : decide (0 < N) = false := decide_eq_false (by omega)) | skip
  first | (have e71 : (C7 == 1) = true := beq_iff_eq.2 (by omega)) | (have e71 : (C7 == 1) = false := beq_eq_false_iff_ne.2 (by omega)) | skip
  first | (have e80 : (C8 == 0) = true := beq_iff_eq.2 (by omega)) | (have e80 : (C8 == 0) = false := beq_eq_false_iff_ne.2 (by omega)) | skip
  first | (have e70 : (C7 == 0) = true := beq_iff_eq.2 (by omega)) | (have e70 : (C7 == 0) = false := beq_eq_false_iff_ne.2 (by omega)) | skip
  first | (have p8 : decide (0 < C8) = true := decide_eq_true (by omega)) | (have p8 : decide (0 < C8) = false := decide_eq_false (by omega)) | skip
  first | (have e90 : (C9 == 0) = true := beq_iff_eq.2 (by omega)) | (have e90 : (C9 == 0) = false := beq_eq_false_iff_ne.2 (by omega)) | skip
  first | (have eN0 : (N == 0) = true := beq_iff_eq.2 (by omega)) | (have eN0 : (N == 0) = false := beq_eq_false_iff_ne.2 (by omega)) | skip
  first | (have e61 : (C6 == 1) = true := beq_iff_eq.2 (by omega)) | (have e61 : (C6 == 1) = false := beq_eq_false_iff_ne.2 (by omega)) | skip
  first | (have s0 : (C3 + C4 + C5 == 0) = true := beq_iff_eq.2 (by omega)) | (have s0 : (C3 + C4 + C5 == 0) = false := beq_eq_false_iff_ne.2 (by omega)) | skip
  first | (have e60 : (C6 == 0) = true := beq_iff_eq.2 (by omega)) | (have e60 : (C6 == 0) = false := beq_eq_false_iff_ne.2 (by omega)) | skip
  first | (have p2 : decide (0 < C2) = true := decide_eq_true (by omega)) | (have p2 : decide (0 < C2) = false := decide_eq_false (by omega)) | skip
  first | (have l3 : decide (C3 ≤ 1) = true := decide_eq_true (by omega)) | (have l3 : decide (C3 ≤ 1) = false := decide_eq_false (by omega)) | skip
  first | (have l4 : decide (C4 ≤ 1) = true := decide_eq_true (by omega)) | (have l4 : decide (C4 ≤ 1) = false := decide_eq_false (by omega)) | skip
  first | (have l5 : decide (C5 ≤ 1) = true := decide_eq_true (by omega)) | (have l5 : decide (C5 ≤ 1) = false := decide_eq_false (by omega)) | skip
  have w1 : 0 ≤ C2 ∧ C2 ≤ 1000000 := by omega
  have w2 : 0 ≤ C3 ∧ C3 ≤ 1000000 := by omega
  have w3 : 0 ≤ C4 ∧ C4 ≤ 1000000 := by omega
  have w4 : 0 ≤ C5 ∧ C5 ≤ 1000000 := by omega
  have w5 : 0 ≤ C6 ∧ C6 ≤ 1000000 := by omega
  have w6 : 0 ≤ C7 ∧ C7 ≤ 1000000 := by omega
  have w7 : 0 ≤ C8 ∧ C8 ≤ 1000000 := by omega
  obtain ⟨⟨x1, y1⟩, ⟨x2, y2⟩, ⟨x3, y3⟩, ⟨x4, y4⟩, ⟨x5, y5⟩, ⟨x6, y6⟩, ⟨x7, y7⟩⟩ := (⟨w1, w2, w3, w4, w5, w6, w7⟩ : _ ∧ _ ∧ _ ∧ _ ∧ _ ∧ _ ∧ _)
  clear w1 w2 w3 w4 w5 w6 w7 hc hb hC0 hC1 hC2 hC3 hC4 hC5 hC6 hC7 hC8 hC9
  go_enter Tryd.func21, Tryd.ntmps21
  go_wp2_with fail
  go_ret
  exact RetB.of rfl (by (repeat (first | exact Below.refl _ _ | assumption | refine Below.setCell ?_ (by first | omega | (simp <;> omega)) _ | refine Below.alloc ?_ (by first | omega | (simp <;> omega)) _ | refine Below.drew ?_ | refine below_drewN' ?_ _)))

set_option maxRecDepth 100000 in
set_option maxHeartbeats 2000000 in
theorem shp_b2 (vi : Value) (g : Bool) (sc : Int) (c0 c1 c2 c3 c4 c5 c6 c7 c8 c9 : Nat) (w : World) (hb : c2 ≤ 1000000 ∧ c3 ≤ 1000000 ∧ c4 ≤ 1000000 ∧ c5 ≤ 1000000 ∧ c6 ≤ 1000000 ∧ c7 ≤ 1000000 ∧ c8 ≤ 1000000)
    (hc : c7 = 1 ∧ 0 < c8 ∧ c2 + c3 + c4 + c5 + c6 = 0) :
    Calls Tryd.prog 21 #[.agg #[vi, .bool g, .int .i64 sc], .agg #[.int .i64 c0, .int .i64 c1, .int .i64 c2, .int .i64 c3, .int .i64 c4, .int .i64 c5, .int .i64 c6, .int .i64 c7, .int .i64 c8, .int .i64 c9]] w (RetB (.int .i64 0) w) := by
  obtain ⟨C0, hC0⟩ : ∃ C : Int, C = (c0 : Int) := ⟨_, rfl⟩
  obtain ⟨C1, hC1⟩ : ∃ C : Int, C = (c1 : Int) := ⟨_, rfl⟩
  obtain ⟨C2, hC2⟩ : ∃ C : Int, C = (c2 : Int) := ⟨_, rfl⟩
  obtain ⟨C3, hC3⟩ : ∃ C : Int, C = (c3 : Int) := ⟨_, rfl⟩
  obtain ⟨C4, hC4⟩ : ∃ C : Int, C = (c4 : Int) := ⟨_, rfl⟩
  obtain ⟨C5, hC5⟩ : ∃ C : Int, C = (c5 : Int) := ⟨_, rfl⟩
  obtain ⟨C6, hC6⟩ : ∃ C : Int, C = (c6 : Int) := ⟨_, rfl⟩
  obtain ⟨C7, hC7⟩ : ∃ C : Int, C = (c7 : Int) := ⟨_, rfl⟩
  obtain ⟨C8, hC8⟩ : ∃ C : Int, C = (c8 : Int) := ⟨_, rfl⟩
  obtain ⟨C9, hC9⟩ : ∃ C : Int, C = (c9 : Int) := ⟨_, rfl⟩
  rw [← hC0, ← hC1, ← hC2, ← hC3, ← hC4, ← hC5, ← hC6, ← hC7, ← hC8, ← hC9]
  obtain ⟨N, hN⟩ : ∃ N, C2 + C3 + C4 + C5 + C6 = N := ⟨_, rfl⟩
  first | (have p1 : decide (0 < C7 + C8) = true := decide_eq_true (by omega)) | (have p1 : decide (0 < C7 + C8) = false := decide_eq_false (by omega)) | skip
  first | (have pN : decide (0 < N) = true := decide_eq_true (by omega)) | (have pN : decide (0 < N) = false := decide_eq_false (by omega)) | skip
  first | (have e71 : (C7 == 1) = true := beq_iff_eq.2 (by omega)) | (have e71 : (C7 == 1) = false := beq_eq_false_iff_ne.2 (by omega)) | skip
  first | (have e80 : (C8 == 0) = true := beq_iff_eq.2 (by omega)) | (have e80 : (C8 == 0) = false := beq_eq_false_iff_ne.2 (by omega)) | skip
  first | (have e70 : (C7 == 0) = true := beq_iff_eq.2 (by omega)) | (have e70 : (C7 == 0) = false := beq_eq_false_iff_ne.2 (by omega)) | skip
  first | (have p8 : decide (0 < C8) = true := decide_eq_true (by omega)) | (have p8 : decide (0 < C8) = false := decide_eq_false (by omega)) | skip
  first | (have e90 : (C9 == 0) = true := beq_iff_eq.2 (by omega)) | (have e90 : (C9 == 0) = false := beq_eq_false_iff_ne.2 (by omega)) | skip
  first | (have eN0 : (N == 0) = true := beq_iff_eq.2 (by omega)) | (have eN0 : (N == 0) = false := beq_eq_false_iff_ne.2 (by omega)) | skip
  first | (have e61 : (C6 == 1) = true := beq_iff_eq.2 (by omega)) | (have e61 : (C6 == 1) = false := beq_eq_false_iff_ne.2 (by omega)) | skip
  first | (have s0 : (C3 + C4 + C5 == 0) = true := beq_iff_eq.2 (by omega)) | (have s0 : (C3 + C4 + C5 == 0) = false := beq_eq_false_iff_ne.2 (by omega)) | skip
  first | (have e60 : (C6 == 0) = true := beq_iff_eq.2 (by omega)) | (have e60 : (C6 == 0) = false := beq_eq_false_iff_ne.2 (by omega)) | skip
  first | (have p2 : decide (0 < C2) = true := decide_eq_true (by omega)) | (have p2 : decide (0 < C2) = false := decide_eq_false (by omega)) | skip
  first | (have l3 : decide (C3 ≤ 1) = true := decide_eq_true (by omega)) | (have l3 : decide (C3 ≤ 1) = false := decide_eq_false (by omega)) | skip
  first | (have l4 : decide (C4 ≤ 1) = true := decide_eq_true (by omega)) | (have l4 : decide (C4 ≤ 1) = false := decide_eq_false (by omega)) | skip
  first | (have l5 : decide (C5 ≤ 1) = true := decide_eq_true (by omega)) | (have l5 : decide (C5 ≤ 1) = false := decide_eq_false (by omega)) | skip
  have w1 : 0 ≤ C2 ∧ C2 ≤ 1000000 := by omega
  have w2 : 0 ≤ C3 ∧ C3 ≤ 1000000 := by omega
  have w3 : 0 ≤ C4 ∧ C4 ≤ 1000000 := by omega
  have w4 : 0 ≤ C5 ∧ C5 ≤ 1000000 := by omega
  have w5 : 0 ≤ C6 ∧ C6 ≤ 1000000 := by omega
  have w6 : 0 ≤ C7 ∧ C7 ≤ 1000000 := by omega
  have w7 : 0 ≤ C8 ∧ C8 ≤ 1000000 := by omega
  obtain ⟨⟨x1, y1⟩, ⟨x2, y2⟩, ⟨x3, y3⟩, ⟨x4, y4⟩, ⟨x5, y5⟩, ⟨x6, y6⟩, ⟨x7, y7⟩⟩ := (⟨w1, w2, w3, w4, w5, w6, w7⟩ : _ ∧ _ ∧ _ ∧ _ ∧ _ ∧ _ ∧ _)
  clear w1 w2 w3 w4 w5 w6 w7 hc hb hC0 hC1 hC2 hC3 hC4 hC5 hC6 hC7 hC8 hC9
  go_enter Tryd.func21, Tryd.ntmps21
  go_wp2_with fail
  go_ret
  exact RetB.of rfl (by (repeat (first | exact Below.refl _ _ | assumption | refine Below.setCell ?_ (by first | omega | (simp <;> omega)) _ | refine Below.alloc ?_ (by first | omega | (simp <;> omega)) _ | refine Below.drew ?_ | refine below_drewN' ?_ _)))

set_option maxRecDepth 100000 in
set_option maxHeartbeats 2000000 in
theorem shp_b3 (vi : Value) (g : Bool) (sc : Int) (c0 c1 c2 c3 c4 c5 c6 c7 c8 c9 : Nat) (w : World) (hb : c2 ≤ 1000000 ∧ c3 ≤ 1000000 ∧ c4 ≤ 1000000 ∧ c5 ≤ 1000000 ∧ c6 ≤ 1000000 ∧ c7 ≤ 1000000 ∧ c8 ≤ 1000000)
    (hc : 1 < c7 ∧ c2 + c3 + c4 + c5 + c6 = 0) :
    Calls Tryd.prog 21 #[.agg #[vi, .bool g, .int .i64 sc], .agg #[.int .i64 c0, .int .i64 c1, .int .i64 c2, .int .i64 c3, .int .i64 c4, .int .i64 c5, .int .i64 c6, .int .i64 c7, .int .i64 c8, .int .i64 c9]] w (RetB (.int .i64 0) w) := by
  obtain ⟨C0, hC0⟩ : ∃ C : Int, C = (c0 : Int) := ⟨_, rfl⟩
  obtain ⟨C1, hC1⟩ : ∃ C : Int, C = (c1 : Int) := ⟨_, rfl⟩
  obtain ⟨C2, hC2⟩ : ∃ C : Int, C = (c2 : Int) := ⟨_, rfl⟩
  obtain ⟨C3, hC3⟩ : ∃ C : Int, C = (c3 : Int) := ⟨_, rfl⟩
  obtain ⟨C4, hC4⟩ : ∃ C : Int, C = (c4 : Int) := ⟨_, rfl⟩
  obtain ⟨C5, hC5⟩ : ∃ C : Int, C = (c5 : Int) := ⟨_, rfl⟩
  obtain ⟨C6, hC6⟩ : ∃ C : Int, C = (c6 : Int) := ⟨_, rfl⟩
  obtain ⟨C7, hC7⟩ : ∃ C : Int, C = (c7 : Int) := ⟨_, rfl⟩
  obtain ⟨C8, hC8⟩ : ∃ C : Int, C = (c8 : Int) := ⟨_, rfl⟩
  obtain ⟨C9, hC9⟩ : ∃ C : Int, C = (c9 : Int) := ⟨_, rfl⟩
  rw [← hC0, ← hC1, ← hC2, ← hC3, ← hC4, ← hC5, ← hC6, ← hC7, ← hC8, ← hC9]
  obtain ⟨N, hN⟩ : ∃ N, C2 + C3 + C4 + C5 + C6 = N := ⟨_, rfl⟩
  first | (have p1 : decide (0 < C7 + C8) = true := decide_eq_true (by omega)) | (have p1 : decide (0 < C7 + C8) = false := decide_eq_false (by omega)) | skip
  first | (have pN : decide (0 < N) = true := decide_eq_true (by omega)) | (have pN : decide (0 < N) = false := decide_eq_false (by omega)) | skip
  first | (have e71 : (C7 == 1) = true := beq_iff_eq.2 (by omega)) | (have e71 : (C7 == 1) = false := beq_eq_false_iff_ne.2 (by omega)) | skip
  first | (have e80 : (C8 == 0) = true := beq_iff_eq.2 (by omega)) | (have e80 : (C8 == 0) = false := beq_eq_false_iff_ne.2 (by omega)) | skip
  first | (have e70 : (C7 == 0) = true := beq_iff_eq.2 (by omega)) | (have e70 : (C7 == 0) = false := beq_eq_false_iff_ne.2 (by omega)) | skip
  first | (have p8 : decide (0 < C8) = true := decide_eq_true (by omega)) | (have p8 : decide (0 < C8) = false := decide_eq_false (by omega)) | skip
  first | (have e90 : (C9 == 0) = true := beq_iff_eq.2 (by omega)) | (have e90 : (C9 == 0) = false := beq_eq_false_iff_ne.2 (by omega)) | skip
  first | (have eN0 : (N == 0) = true := beq_iff_eq.2 (by omega)) | (have eN0 : (N == 0) = false := beq_eq_false_iff_ne.2 (by omega)) | skip
  first | (have e61 : (C6 == 1) = true := beq_iff_eq.2 (by omega)) | (have e61 : (C6 == 1) = false := beq_eq_false_iff_ne.2 (by omega)) | skip
  first | (have s0 : (C3 + C4 + C5 == 0) = true := beq_iff_eq.2 (by omega)) | (have s0 : (C3 + C4 + C5 == 0) = false := beq_eq_false_iff_ne.2 (by omega)) | skip
  first | (have e60 : (C6 == 0) = true := beq_iff_eq.2 (by omega)) | (have e60 : (C6 == 0) = false := beq_eq_false_iff_ne.2 (by omega)) | skip
  first | (have p2 : decide (0 < C2) = true := decide_eq_true (by omega)) | (have p2 : decide (0 < C2) = false := decide_eq_false (by omega)) | skip
  first | (have l3 : decide (C3 ≤ 1) = true := decide_eq_true (by omega)) | (have l3 : decide (C3 ≤ 1) = false := decide_eq_false (by omega)) | skip
  first | (have l4 : decide (C4 ≤ 1) = true := decide_eq_true (by omega)) | (have l4 : decide (C4 ≤ 1) = false := decide_eq_false (by omega)) | skip
  first | (have l5 : decide (C5 ≤ 1) = true := decide_eq_true (by omega)) | (have l5 : decide (C5 ≤ 1) = false := decide_eq_false (by omega)) | skip
  have w1 : 0 ≤ C2 ∧ C2 ≤ 1000000 := by omega
  have w2 : 0 ≤ C3 ∧ C3 ≤ 1000000 := by omega
  have w3 : 0 ≤ C4 ∧ C4 ≤ 1000000 := by omega
  have w4 : 0 ≤ C5 ∧ C5 ≤ 1000000 := by omega
  have w5 : 0 ≤ C6 ∧ C6 ≤ 1000000 := by omega
  have w6 : 0 ≤ C7 ∧ C7 ≤ 1000000 := by omega
  have w7 : 0 ≤ C8 ∧ C8 ≤ 1000000 := by omega
  obtain ⟨⟨x1, y1⟩, ⟨x2, y2⟩, ⟨x3, y3⟩, ⟨x4, y4⟩, ⟨x5, y5⟩, ⟨x6, y6⟩, ⟨x7, y7⟩⟩ := (⟨w1, w2, w3, w4, w5, w6, w7⟩ : _ ∧ _ ∧ _ ∧ _ ∧ _ ∧ _ ∧ _)
  clear w1 w2 w3 w4 w5 w6 w7 hc hb hC0 hC1 hC2 hC3 hC4 hC5 hC6 hC7 hC8 hC9
  go_enter Tryd.func21, Tryd.ntmps21
  go_wp2_with fail
  go_ret
  exact RetB.of rfl (by (repeat (first | exact Below.refl _ _ | assumption | refine Below.setCell ?_ (by first | omega | (simp <;> omega)) _ | refine Below.alloc ?_ (by first | omega | (simp <;> omega)) _ | refine Below.drew ?_ | refine below_drewN' ?_ _)))

set_option maxRecDepth 100000 in
set_option maxHeartbeats 2000000 in
theorem shp_c1 (vi : Value) (g : Bool) (sc : Int) (c0 c1 c2 c3 c4 c5 c6 c7 c8 c9 : Nat) (w : World) (hb : c2 ≤ 1000000 ∧ c3 ≤ 1000000 ∧ c4 ≤ 1000000 ∧ c5 ≤ 1000000 ∧ c6 ≤ 1000000 ∧ c7 ≤ 1000000 ∧ c8 ≤ 1000000)
    (hc : c7 = 0 ∧ 0 < c8 ∧ c9 = 0 ∧ c2 + c3 + c4 + c5 + c6 = 0) :
    Calls Tryd.prog 21 #[.agg #[vi, .bool g, .int .i64 sc], .agg #[.int .i64 c0, .int .i64 c1, .int .i64 c2, .int .i64 c3, .int .i64 c4, .int .i64 c5, .int .i64 c6, .int .i64 c7, .int .i64 c8, .int .i64 c9]] w (RetB (.int .i64 6) w) := by
  obtain ⟨C0, hC0⟩ : ∃ C : Int, C = (c0 : Int) := ⟨_, rfl⟩
  obtain ⟨C1, hC1⟩ : ∃ C : Int, C = (c1 : Int) := ⟨_, rfl⟩
  obtain ⟨C2, hC2⟩ : ∃ C : Int, C = (c2 : Int) := ⟨_, rfl⟩
  obtain ⟨C3, hC3⟩ : ∃ C : Int, C = (c3 : Int) := ⟨_, rfl⟩
  obtain ⟨C4, hC4⟩ : ∃ C : Int, C = (c4 : Int) := ⟨_, rfl⟩
  obtain ⟨C5, hC5⟩ : ∃ C : Int, C = (c5 : Int) := ⟨_, rfl⟩
  obtain ⟨C6, hC6⟩ : ∃ C : Int, C = (c6 : Int) := ⟨_, rfl⟩
  obtain ⟨C7, hC7⟩ : ∃ C : Int, C = (c7 : Int) := ⟨_, rfl⟩
  obtain ⟨C8, hC8⟩ : ∃ C : Int, C = (c8 : Int) := ⟨_, rfl⟩
  obtain ⟨C9, hC9⟩ : ∃ C : Int, C = (c9 : Int) := ⟨_, rfl⟩
  rw [← hC0, ← hC1, ← hC2, ← hC3, ← hC4, ← hC5, ← hC6, ← hC7, ← hC8, ← hC9]
  obtain ⟨N, hN⟩ : ∃ N, C2 + C3 + C4 + C5 + C6 = N := ⟨_, rfl⟩
  first | (have p1 : decide (0 < C7 + C8) = true := decide_eq_true (by omega)) | (have p1 : decide (0 < C7 + C8) = false := decide_eq_false (by omega)) | skip
  first | (have pN : decide (0 < N) = true := decide_eq_true (by omega)) | (have pN : decide (0 < N) = false := decide_eq_false (by omega)) | skip
  first | (have e71 : (C7 == 1) = true := beq_iff_eq.2 (by omega)) | (have e71 : (C7 == 1) = false := beq_eq_false_iff_ne.2 (by omega)) | skip
  first | (have e80 : (C8 == 0) = true := beq_iff_eq.2 (by omega)) | (have e80 : (C8 == 0) = false := beq_eq_false_iff_ne.2 (by omega)) | skip
  first | (have e70 : (C7 == 0) = true := beq_iff_eq.2 (by omega)) | (have e70 : (C7 == 0) = false := beq_eq_false_iff_ne.2 (by omega)) | skip
  first | (have p8 : decide (0 < C8) = true := decide_eq_true (by omega)) | (have p8 : decide (0 < C8) = false := decide_eq_false (by omega)) | skip
  first | (have e90 : (C9 == 0) = true := beq_iff_eq.2 (by omega)) | (have e90 : (C9 == 0) = false := beq_eq_false_iff_ne.2 (by omega)) | skip
  first | (have eN0 : (N == 0) = true := beq_iff_eq.2 (by omega)) | (have eN0 : (N == 0) = false := beq_eq_false_iff_ne.2 (by omega)) | skip
  first | (have e61 : (C6 == 1) = true := beq_iff_eq.2 (by omega)) | (have e61 : (C6 == 1) = false := beq_eq_false_iff_ne.2 (by omega)) | skip
  first | (have s0 : (C3 + C4 + C5 == 0) = true := beq_iff_eq.2 (by omega)) | (have s0 : (C3 + C4 + C5 == 0) = false := beq_eq_false_iff_ne.2 (by omega)) | skip
  first | (have e60 : (C6 == 0) = true := beq_iff_eq.2 (by omega)) | (have e60 : (C6 == 0) = false := beq_eq_false_iff_ne.2 (by omega)) | skip
  first | (have p2 : decide (0 < C2) = true := decide_eq_true (by omega)) | (have p2 : decide (0 < C2) = false := decide_eq_false (by omega)) | skip
  first | (have l3 : decide (C3 ≤ 1) = true := decide_eq_true (by omega)) | (have l3 : decide (C3 ≤ 1) = false := decide_eq_false (by omega)) | skip
  first | (have l4 : decide (C4 ≤ 1) = true := decide_eq_true (by omega)) | (have l4 : decide (C4 ≤ 1) = false := decide_eq_false (by omega)) | skip
  first | (have l5 : decide (C5 ≤ 1) = true := decide_eq_true (by omega)) | (have l5 : decide (C5 ≤ 1) = false := decide_eq_false (by omega)) | skip
  have w1 : 0 ≤ C2 ∧ C2 ≤ 1000000 := by omega
  have w2 : 0 ≤ C3 ∧ C3 ≤ 1000000 := by omega
  have w3 : 0 ≤ C4 ∧ C4 ≤ 1000000 := by omega
  have w4 : 0 ≤ C5 ∧ C5 ≤ 1000000 := by omega
  have w5 : 0 ≤ C6 ∧ C6 ≤ 1000000 := by omega
  have w6 : 0 ≤ C7 ∧ C7 ≤ 1000000 := by omega
  have w7 : 0 ≤ C8 ∧ C8 ≤ 1000000 := by omega
  obtain ⟨⟨x1, y1⟩, ⟨x2, y2⟩, ⟨x3, y3⟩, ⟨x4, y4⟩, ⟨x5, y5⟩, ⟨x6, y6⟩, ⟨x7, y7⟩⟩ := (⟨w1, w2, w3, w4, w5, w6, w7⟩ : _ ∧ _ ∧ _ ∧ _ ∧ _ ∧ _ ∧ _)
  clear w1 w2 w3 w4 w5 w6 w7 hc hb hC0 hC1 hC2 hC3 hC4 hC5 hC6 hC7 hC8 hC9
  go_enter Tryd.func21, Tryd.ntmps21
  go_wp2_with fail
  go_ret
  exact RetB.of rfl (by (repeat (first | exact Below.refl _ _ | assumption | refine Below.setCell ?_ (by first | omega | (simp <;> omega)) _ | refine Below.alloc ?_ (by first | omega | (simp <;> omega)) _ | refine Below.drew ?_ | refine below_drewN' ?_ _)))

set_option maxRecDepth 100000 in
set_option maxHeartbeats 2000000 in
theorem shp_c2 (vi : Value) (g : Bool) (sc : Int) (c0 c1 c2 c3 c4 c5 c6 c7 c8 c9 : Nat) (w : World) (hb : c2 ≤ 1000000 ∧ c3 ≤ 1000000 ∧ c4 ≤ 1000000 ∧ c5 ≤ 1000000 ∧ c6 ≤ 1000000 ∧ c7 ≤ 1000000 ∧ c8 ≤ 1000000)
    (hc : c7 = 0 ∧ 0 < c8 ∧ 0 < c9 ∧ c2 + c3 + c4 + c5 + c6 = 0) :
    Calls Tryd.prog 21 #[.agg #[vi, .bool g, .int .i64 sc], .agg #[.int .i64 c0, .int .i64 c1, .int .i64 c2, .int .i64 c3, .int .i64 c4, .int .i64 c5, .int .i64 c6, .int .i64 c7, .int .i64 c8, .int .i64 c9]] w (RetB (.int .i64 0) w) := by
  obtain ⟨C0, hC0⟩ : ∃ C : Int, C = (c0 : Int) := ⟨_, rfl⟩
  obtain ⟨C1, hC1⟩ : ∃ C : Int, C = (c1 : Int) := ⟨_, rfl⟩
  obtain ⟨C2, hC2⟩ : ∃ C : Int, C = (c2 : Int) := ⟨_, rfl⟩
  obtain ⟨C3, hC3⟩ : ∃ C : Int, C = (c3 : Int) := ⟨_, rfl⟩
  obtain ⟨C4, hC4⟩ : ∃ C : Int, C = (c4 : Int) := ⟨_, rfl⟩
  obtain ⟨C5, hC5⟩ : ∃ C : Int, C = (c5 : Int) := ⟨_, rfl⟩
  obtain ⟨C6, hC6⟩ : ∃ C : Int, C = (c6 : Int) := ⟨_, rfl⟩
  obtain ⟨C7, hC7⟩ : ∃ C : Int, C = (c7 : Int) := ⟨_, rfl⟩
  obtain ⟨C8, hC8⟩ : ∃ C : Int, C = (c8 : Int) := ⟨_, rfl⟩
  obtain ⟨C9, hC9⟩ : ∃ C : Int, C = (c9 : Int) := ⟨_, rfl⟩
  rw [← hC0, ← hC1, ← hC2, ← hC3, ← hC4, ← hC5, ← hC6, ← hC7, ← hC8, ← hC9]
  obtain ⟨N, hN⟩ : ∃ N, C2 + C3 + C4 + C5 + C6 = N := ⟨_, rfl⟩
  first | (have p1 : decide (0 < C7 + C8) = true := decide_eq_true (by omega)) | (have p1 : decide (0 < C7 + C8) = false := decide_eq_false (by omega)) | skip
  first | (have pN : decide (0 < N) = true := decide_eq_true (by omega)) | (have pN : decide (0 < N) = false := decide_eq_false (by omega)) | skip
  first | (have e71 : (C7 == 1) = true := beq_iff_eq.2 (by omega)) | (have e71 : (C7 == 1) = false := beq_eq_false_iff_ne.2 (by omega)) | skip
  first | (have e80 : (C8 == 0) = true := beq_iff_eq.2 (by omega)) | (have e80 : (C8 == 0) = false := beq_eq_false_iff_ne.2 (by omega)) | skip
  first | (have e70 : (C7 == 0) = true := beq_iff_eq.2 (by omega)) | (have e70 : (C7 == 0) = false := beq_eq_false_iff_ne.2 (by omega)) | skip
  first | (have p8 : decide (0 < C8) = true := decide_eq_true (by omega)) | (have p8 : decide (0 < C8) = false := decide_eq_false (by omega)) | skip
  first | (have e90 : (C9 == 0) = true := beq_iff_eq.2 (by omega)) | (have e90 : (C9 == 0) = false := beq_eq_false_iff_ne.2 (by omega)) | skip
  first | (have eN0 : (N == 0) = true := beq_iff_eq.2 (by omega)) | (have eN0 : (N == 0) = false := beq_eq_false_iff_ne.2 (by omega)) | skip
  first | (have e61 : (C6 == 1) = true := beq_iff_eq.2 (by omega)) | (have e61 : (C6 == 1) = false := beq_eq_false_iff_ne.2 (by omega)) | skip
  first | (have s0 : (C3 + C4 + C5 == 0) = true := beq_iff_eq.2 (by omega)) | (have s0 : (C3 + C4 + C5 == 0) = false := beq_eq_false_iff_ne.2 (by omega)) | skip
  first | (have e60 : (C6 == 0) = true := beq_iff_eq.2 (by omega)) | (have e60 : (C6 == 0) = false := beq_eq_false_iff_ne.2 (by omega)) | skip
  first | (have p2 : decide (0 < C2) = true := decide_eq_true (by omega)) | (have p2 : decide (0 < C2) = false := decide_eq_false (by omega)) | skip
  first | (have l3 : decide (C3 ≤ 1) = true := decide_eq_true (by omega)) | (have l3 : decide (C3 ≤ 1) = false := decide_eq_false (by omega)) | skip
  first | (have l4 : decide (C4 ≤ 1) = true := decide_eq_true (by omega)) | (have l4 : decide (C4 ≤ 1) = false := decide_eq_false (by omega)) | skip
  first | (have l5 : decide (C5 ≤ 1) = true := decide_eq_true (by omega)) | (have l5 : decide (C5 ≤ 1) = false := decide_eq_false (by omega)) | skip
  have w1 : 0 ≤ C2 ∧ C2 ≤ 1000000 := by omega
  have w2 : 0 ≤ C3 ∧ C3 ≤ 1000000 := by omega
  have w3 : 0 ≤ C4 ∧ C4 ≤ 1000000 := by omega
  have w4 : 0 ≤ C5 ∧ C5 ≤ 1000000 := by omega
  have w5 : 0 ≤ C6 ∧ C6 ≤ 1000000 := by omega
  have w6 : 0 ≤ C7 ∧ C7 ≤ 1000000 := by omega
  have w7 : 0 ≤ C8 ∧ C8 ≤ 1000000 := by omega
  obtain ⟨⟨x1, y1⟩, ⟨x2, y2⟩, ⟨x3, y3⟩, ⟨x4, y4⟩, ⟨x5, y5⟩, ⟨x6, y6⟩, ⟨x7, y7⟩⟩ := (⟨w1, w2, w3, w4, w5, w6, w7⟩ : _ ∧ _ ∧ _ ∧ _ ∧ _ ∧ _ ∧ _)
  clear w1 w2 w3 w4 w5 w6 w7 hc hb hC0 hC1 hC2 hC3 hC4 hC5 hC6 hC7 hC8 hC9
  go_enter Tryd.func21, Tryd.ntmps21
  go_wp2_with fail
  go_ret
  exact RetB.of rfl (by (repeat (first | exact Below.refl _ _ | assumption | refine Below.setCell ?_ (by first | omega | (simp <;> omega)) _ | refine Below.alloc ?_ (by first | omega | (simp <;> omega)) _ | refine Below.drew ?_ | refine below_drewN' ?_ _)))

set_option maxRecDepth 100000 in
set_option maxHeartbeats 2000000 in
theorem shp_d (vi : Value) (g : Bool) (sc : Int) (c0 c1 c2 c3 c4 c5 c6 c7 c8 c9 : Nat) (w : World) (hb : c2 ≤ 1000000 ∧ c3 ≤ 1000000 ∧ c4 ≤ 1000000 ∧ c5 ≤ 1000000 ∧ c6 ≤ 1000000 ∧ c7 ≤ 1000000 ∧ c8 ≤ 1000000)
    (hc : c7 = 0 ∧ c8 = 0 ∧ c2 + c3 + c4 + c5 + c6 = 0) :
    Calls Tryd.prog 21 #[.agg #[vi, .bool g, .int .i64 sc], .agg #[.int .i64 c0, .int .i64 c1, .int .i64 c2, .int .i64 c3, .int .i64 c4, .int .i64 c5, .int .i64 c6, .int .i64 c7, .int .i64 c8, .int .i64 c9]] w (RetB (.int .i64 1) w) := by
  obtain ⟨C0, hC0⟩ : ∃ C : Int, C = (c0 : Int) := ⟨_, rfl⟩
  obtain ⟨C1, hC1⟩ : ∃ C : Int, C = (c1 : Int) := ⟨_, rfl⟩
  obtain ⟨C2, hC2⟩ : ∃ C : Int, C = (c2 : Int) := ⟨_, rfl⟩
  obtain ⟨C3, hC3⟩ : ∃ C : Int, C = (c3 : Int) := ⟨_, rfl⟩
  obtain ⟨C4, hC4⟩ : ∃ C : Int, C = (c4 : Int) := ⟨_, rfl⟩
  obtain ⟨C5, hC5⟩ : ∃ C : Int, C = (c5 : Int) := ⟨_, rfl⟩
  obtain ⟨C6, hC6⟩ : ∃ C : Int, C = (c6 : Int) := ⟨_, rfl⟩
  obtain ⟨C7, hC7⟩ : ∃ C : Int, C = (c7 : Int) := ⟨_, rfl⟩
  obtain ⟨C8, hC8⟩ : ∃ C : Int, C = (c8 : Int) := ⟨_, rfl⟩
  obtain ⟨C9, hC9⟩ : ∃ C : Int, C = (c9 : Int) := ⟨_, rfl⟩
  rw [← hC0, ← hC1, ← hC2, ← hC3, ← hC4, ← hC5, ← hC6, ← hC7, ← hC8, ← hC9]
  obtain ⟨N, hN⟩ : ∃ N, C2 + C3 + C4 + C5 + C6 = N := ⟨_, rfl⟩
  first | (have p1 : decide (0 < C7 + C8) = true := decide_eq_true (by omega)) | (have p1 : decide (0 < C7 + C8) = false := decide_eq_false (by omega)) | skip
  first | (have pN : decide (0 < N) = true := decide_eq_true (by omega)) | (have pN : decide (0 < N) = false := decide_eq_false (by omega)) | skip
  first | (have e71 : (C7 == 1) = true := beq_iff_eq.2 (by omega)) | (have e71 : (C7 == 1) = false := beq_eq_false_iff_ne.2 (by omega)) | skip
  first | (have e80 : (C8 == 0) = true := beq_iff_eq.2 (by omega)) | (have e80 : (C8 == 0) = false := beq_eq_false_iff_ne.2 (by omega)) | skip
  first | (have e70 : (C7 == 0) = true := beq_iff_eq.2 (by omega)) | (have e70 : (C7 == 0) = false := beq_eq_false_iff_ne.2 (by omega)) | skip
  first | (have p8 : decide (0 < C8) = true := decide_eq_true (by omega)) | (have p8 : decide (0 < C8) = false := decide_eq_false (by omega)) | skip
  first | (have e90 : (C9 == 0) = true := beq_iff_eq.2 (by omega)) | (have e90 : (C9 == 0) = false := beq_eq_false_iff_ne.2 (by omega)) | skip
  first | (have eN0 : (N == 0) = true := beq_iff_eq.2 (by omega)) | (have eN0 : (N == 0) = false := beq_eq_false_iff_ne.2 (by omega)) | skip
  first | (have e61 : (C6 == 1) = true := beq_iff_eq.2 (by omega)) | (have e61 : (C6 == 1) = false := beq_eq_false_iff_ne.2 (by omega)) | skip
  first | (have s0 : (C3 + C4 + C5 == 0) = true := beq_iff_eq.2 (by omega)) | (have s0 : (C3 + C4 + C5 == 0) = false := beq_eq_false_iff_ne.2 (by omega)) | skip
  first | (have e60 : (C6 == 0) = true := beq_iff_eq.2 (by omega)) | (have e60 : (C6 == 0) = false := beq_eq_false_iff_ne.2 (by omega)) | skip
  first | (have p2 : decide (0 < C2) = true := decide_eq_true (by omega)) | (have p2 : decide (0 < C2) = false := decide_eq_false (by omega)) | skip
  first | (have l3 : decide (C3 ≤ 1) = true := decide_eq_true (by omega)) | (have l3 : decide (C3 ≤ 1) = false := decide_eq_false (by omega)) | skip
  first | (have l4 : decide (C4 ≤ 1) = true := decide_eq_true (by omega)) | (have l4 : decide (C4 ≤ 1) = false := decide_eq_false (by omega)) | skip
  first | (have l5 : decide (C5 ≤ 1) = true := decide_eq_true (by omega)) | (have l5 : decide (C5 ≤ 1) = false := decide_eq_false (by omega)) | skip
  have w1 : 0 ≤ C2 ∧ C2 ≤ 1000000 := by omega
  have w2 : 0 ≤ C3 ∧ C3 ≤ 1000000 := by omega
  have w3 : 0 ≤ C4 ∧ C4 ≤ 1000000 := by omega
  have w4 : 0 ≤ C5 ∧ C5 ≤ 1000000 := by omega
  have w5 : 0 ≤ C6 ∧ C6 ≤ 1000000 := by omega
  have w6 : 0 ≤ C7 ∧ C7 ≤ 1000000 := by omega
  have w7 : 0 ≤ C8 ∧ C8 ≤ 1000000 := by omega
  obtain ⟨⟨x1, y1⟩, ⟨x2, y2⟩, ⟨x3, y3⟩, ⟨x4, y4⟩, ⟨x5, y5⟩, ⟨x6, y6⟩, ⟨x7, y7⟩⟩ := (⟨w1, w2, w3, w4, w5, w6, w7⟩ : _ ∧ _ ∧ _ ∧ _ ∧ _ ∧ _ ∧ _)
  clear w1 w2 w3 w4 w5 w6 w7 hc hb hC0 hC1 hC2 hC3 hC4 hC5 hC6 hC7 hC8 hC9
  go_enter Tryd.func21, Tryd.ntmps21
  go_wp2_with fail
  go_ret
  exact RetB.of rfl (by (repeat (first | exact Below.refl _ _ | assumption | refine Below.setCell ?_ (by first | omega | (simp <;> omega)) _ | refine Below.alloc ?_ (by first | omega | (simp <;> omega)) _ | refine Below.drew ?_ | refine below_drewN' ?_ _)))

set_option maxRecDepth 100000 in
set_option maxHeartbeats 2000000 in
theorem shp_e2 (vi : Value) (g : Bool) (sc : Int) (c0 c1 c2 c3 c4 c5 c6 c7 c8 c9 : Nat) (w : World) (hb : c2 ≤ 1000000 ∧ c3 ≤ 1000000 ∧ c4 ≤ 1000000 ∧ c5 ≤ 1000000 ∧ c6 ≤ 1000000 ∧ c7 ≤ 1000000 ∧ c8 ≤ 1000000)
    (hc : c7 = 0 ∧ c8 = 0 ∧ c6 = 1 ∧ 0 < c3 + c4 + c5) :
    Calls Tryd.prog 21 #[.agg #[vi, .bool g, .int .i64 sc], .agg #[.int .i64 c0, .int .i64 c1, .int .i64 c2, .int .i64 c3, .int .i64 c4, .int .i64 c5, .int .i64 c6, .int .i64 c7, .int .i64 c8, .int .i64 c9]] w (RetB (.int .i64 0) w) := by
  obtain ⟨C0, hC0⟩ : ∃ C : Int, C = (c0 : Int) := ⟨_, rfl⟩
  obtain ⟨C1, hC1⟩ : ∃ C : Int, C = (c1 : Int) := ⟨_, rfl⟩
  obtain ⟨C2, hC2⟩ : ∃ C : Int, C = (c2 : Int) := ⟨_, rfl⟩
  obtain ⟨C3, hC3⟩ : ∃ C : Int, C = (c3 : Int) := ⟨_, rfl⟩
  obtain ⟨C4, hC4⟩ : ∃ C : Int, C = (c4 : Int) := ⟨_, rfl⟩
  obtain ⟨C5, hC5⟩ : ∃ C : Int, C = (c5 : Int) := ⟨_, rfl⟩
  obtain ⟨C6, hC6⟩ : ∃ C : Int, C = (c6 : Int) := ⟨_, rfl⟩
  obtain ⟨C7, hC7⟩ : ∃ C : Int, C = (c7 : Int) := ⟨_, rfl⟩
  obtain ⟨C8, hC8⟩ : ∃ C : Int, C = (c8 : Int) := ⟨_, rfl⟩
  obtain ⟨C9, hC9⟩ : ∃ C : Int, C = (c9 : Int) := ⟨_, rfl⟩
  rw [← hC0, ← hC1, ← hC2, ← hC3, ← hC4, ← hC5, ← hC6, ← hC7, ← hC8, ← hC9]
  obtain ⟨N, hN⟩ : ∃ N, C2 + C3 + C4 + C5 + C6 = N := ⟨_, rfl⟩
  first | (have p1 : decide (0 < C7 + C8) = true := decide_eq_true (by omega)) | (have p1 : decide (0 < C7 + C8) = false := decide_eq_false (by omega)) | skip
  first | (have pN : decide (0 < N) = true := decide_eq_true (by omega)) | (have pN : decide (0 < N) = false := decide_eq_false (by omega)) | skip
  first | (have e71 : (C7 == 1) = true := beq_iff_eq.2 (by omega)) | (have e71 : (C7 == 1) = false := beq_eq_false_iff_ne.2 (by omega)) | skip
  first | (have e80 : (C8 == 0) = true := beq_iff_eq.2 (by omega)) | (have e80 : (C8 == 0) = false := beq_eq_false_iff_ne.2 (by omega)) | skip
  first | (have e70 : (C7 == 0) = true := beq_iff_eq.2 (by omega)) | (have e70 : (C7 == 0) = false := beq_eq_false_iff_ne.2 (by omega)) | skip
  first | (have p8 : decide (0 < C8) = true := decide_eq_true (by omega)) | (have p8 : decide (0 < C8) = false := decide_eq_false (by omega)) | skip
  first | (have e90 : (C9 == 0) = true := beq_iff_eq.2 (by omega)) | (have e90 : (C9 == 0) = false := beq_eq_false_iff_ne.2 (by omega)) | skip
  first | (have eN0 : (N == 0) = true := beq_iff_eq.2 (by omega)) | (have eN0 : (N == 0) = false := beq_eq_false_iff_ne.2 (by omega)) | skip
  first | (have e61 : (C6 == 1) = true := beq_iff_eq.2 (by omega)) | (have e61 : (C6 == 1) = false := beq_eq_false_iff_ne.2 (by omega)) | skip
  first | (have s0 : (C3 + C4 + C5 == 0) = true := beq_iff_eq.2 (by omega)) | (have s0 : (C3 + C4 + C5 == 0) = false := beq_eq_false_iff_ne.2 (by omega)) | skip
  first | (have e60 : (C6 == 0) = true := beq_iff_eq.2 (by omega)) | (have e60 : (C6 == 0) = false := beq_eq_false_iff_ne.2 (by omega)) | skip
  first | (have p2 : decide (0 < C2) = true := decide_eq_true (by omega)) | (have p2 : decide (0 < C2) = false := decide_eq_false (by omega)) | skip
  first | (have l3 : decide (C3 ≤ 1) = true := decide_eq_true (by omega)) | (have l3 : decide (C3 ≤ 1) = false := decide_eq_false (by omega)) | skip
  first | (have l4 : decide (C4 ≤ 1) = true := decide_eq_true (by omega)) | (have l4 : decide (C4 ≤ 1) = false := decide_eq_false (by omega)) | skip
  first | (have l5 : decide (C5 ≤ 1) = true := decide_eq_true (by omega)) | (have l5 : decide (C5 ≤ 1) = false := decide_eq_false (by omega)) | skip
  have w1 : 0 ≤ C2 ∧ C2 ≤ 1000000 := by omega
  have w2 : 0 ≤ C3 ∧ C3 ≤ 1000000 := by omega
  have w3 : 0 ≤ C4 ∧ C4 ≤ 1000000 := by omega
  have w4 : 0 ≤ C5 ∧ C5 ≤ 1000000 := by omega
  have w5 : 0 ≤ C6 ∧ C6 ≤ 1000000 := by omega
  have w6 : 0 ≤ C7 ∧ C7 ≤ 1000000 := by omega
  have w7 : 0 ≤ C8 ∧ C8 ≤ 1000000 := by omega
  obtain ⟨⟨x1, y1⟩, ⟨x2, y2⟩, ⟨x3, y3⟩, ⟨x4, y4⟩, ⟨x5, y5⟩, ⟨x6, y6⟩, ⟨x7, y7⟩⟩ := (⟨w1, w2, w3, w4, w5, w6, w7⟩ : _ ∧ _ ∧ _ ∧ _ ∧ _ ∧ _ ∧ _)
  clear w1 w2 w3 w4 w5 w6 w7 hc hb hC0 hC1 hC2 hC3 hC4 hC5 hC6 hC7 hC8 hC9
  go_enter Tryd.func21, Tryd.ntmps21
  go_wp2_with fail
  go_ret
  exact RetB.of rfl (by (repeat (first | exact Below.refl _ _ | assumption | refine Below.setCell ?_ (by first | omega | (simp <;> omega)) _ | refine Below.alloc ?_ (by first | omega | (simp <;> omega)) _ | refine Below.drew ?_ | refine below_drewN' ?_ _)))

set_option maxRecDepth 100000 in
set_option maxHeartbeats 2000000 in
theorem shp_e3 (vi : Value) (g : Bool) (sc : Int) (c0 c1 c2 c3 c4 c5 c6 c7 c8 c9 : Nat) (w : World) (hb : c2 ≤ 1000000 ∧ c3 ≤ 1000000 ∧ c4 ≤ 1000000 ∧ c5 ≤ 1000000 ∧ c6 ≤ 1000000 ∧ c7 ≤ 1000000 ∧ c8 ≤ 1000000)
    (hc : c7 = 0 ∧ c8 = 0 ∧ 1 < c6) :
    Calls Tryd.prog 21 #[.agg #[vi, .bool g, .int .i64 sc], .agg #[.int .i64 c0, .int .i64 c1, .int .i64 c2, .int .i64 c3, .int .i64 c4, .int .i64 c5, .int .i64 c6, .int .i64 c7, .int .i64 c8, .int .i64 c9]] w (RetB (.int .i64 0) w) := by
  obtain ⟨C0, hC0⟩ : ∃ C : Int, C = (c0 : Int) := ⟨_, rfl⟩
  obtain ⟨C1, hC1⟩ : ∃ C : Int, C = (c1 : Int) := ⟨_, rfl⟩
  obtain ⟨C2, hC2⟩ : ∃ C : Int, C = (c2 : Int) := ⟨_, rfl⟩
  obtain ⟨C3, hC3⟩ : ∃ C : Int, C = (c3 : Int) := ⟨_, rfl⟩
  obtain ⟨C4, hC4⟩ : ∃ C : Int, C = (c4 : Int) := ⟨_, rfl⟩
  obtain ⟨C5, hC5⟩ : ∃ C : Int, C = (c5 : Int) := ⟨_, rfl⟩
  obtain ⟨C6, hC6⟩ : ∃ C : Int, C = (c6 : Int) := ⟨_, rfl⟩
  obtain ⟨C7, hC7⟩ : ∃ C : Int, C = (c7 : Int) := ⟨_, rfl⟩
  obtain ⟨C8, hC8⟩ : ∃ C : Int, C = (c8 : Int) := ⟨_, rfl⟩
  obtain ⟨C9, hC9⟩ : ∃ C : Int, C = (c9 : Int) := ⟨_, rfl⟩
  rw [← hC0, ← hC1, ← hC2, ← hC3, ← hC4, ← hC5, ← hC6, ← hC7, ← hC8, ← hC9]
  obtain ⟨N, hN⟩ : ∃ N, C2 + C3 + C4 + C5 + C6 = N := ⟨_, rfl⟩
  first | (have p1 : decide (0 < C7 + C8) = true := decide_eq_true (by omega)) | (have p1 : decide (0 < C7 + C8) = false := decide_eq_false (by omega)) | skip
  first | (have pN : decide (0 < N) = true := decide_eq_true (by omega)) | (have pN : decide (0 < N) = false := decide_eq_false (by omega)) | skip
  first | (have e71 : (C7 == 1) = true := beq_iff_eq.2 (by omega)) | (have e71 : (C7 == 1) = false := beq_eq_false_iff_ne.2 (by omega)) | skip
  first | (have e80 : (C8 == 0) = true := beq_iff_eq.2 (by omega)) | (have e80 : (C8 == 0) = false := beq_eq_false_iff_ne.2 (by omega)) | skip
  first | (have e70 : (C7 == 0) = true := beq_iff_eq.2 (by omega)) | (have e70 : (C7 == 0) = false := beq_eq_false_iff_ne.2 (by omega)) | skip
  first | (have p8 : decide (0 < C8) = true := decide_eq_true (by omega)) | (have p8 : decide (0 < C8) = false := decide_eq_false (by omega)) | skip
  first | (have e90 : (C9 == 0) = true := beq_iff_eq.2 (by omega)) | (have e90 : (C9 == 0) = false := beq_eq_false_iff_ne.2 (by omega)) | skip
  first | (have eN0 : (N == 0) = true := beq_iff_eq.2 (by omega)) | (have eN0 : (N == 0) = false := beq_eq_false_iff_ne.2 (by omega)) | skip
  first | (have e61 : (C6 == 1) = true := beq_iff_eq.2 (by omega)) | (have e61 : (C6 == 1) = false := beq_eq_false_iff_ne.2 (by omega)) | skip
  first | (have s0 : (C3 + C4 + C5 == 0) = true := beq_iff_eq.2 (by omega)) | (have s0 : (C3 + C4 + C5 == 0) = false := beq_eq_false_iff_ne.2 (by omega)) | skip
  first | (have e60 : (C6 == 0) = true := beq_iff_eq.2 (by omega)) | (have e60 : (C6 == 0) = false := beq_eq_false_iff_ne.2 (by omega)) | skip
  first | (have p2 : decide (0 < C2) = true := decide_eq_true (by omega)) | (have p2 : decide (0 < C2) = false := decide_eq_false (by omega)) | skip
  first | (have l3 : decide (C3 ≤ 1) = true := decide_eq_true (by omega)) | (have l3 : decide (C3 ≤ 1) = false := decide_eq_false (by omega)) | skip
  first | (have l4 : decide (C4 ≤ 1) = true := decide_eq_true (by omega)) | (have l4 : decide (C4 ≤ 1) = false := decide_eq_false (by omega)) | skip
  first | (have l5 : decide (C5 ≤ 1) = true := decide_eq_true (by omega)) | (have l5 : decide (C5 ≤ 1) = false := decide_eq_false (by omega)) | skip
  have w1 : 0 ≤ C2 ∧ C2 ≤ 1000000 := by omega
  have w2 : 0 ≤ C3 ∧ C3 ≤ 1000000 := by omega
  have w3 : 0 ≤ C4 ∧ C4 ≤ 1000000 := by omega
  have w4 : 0 ≤ C5 ∧ C5 ≤ 1000000 := by omega
  have w5 : 0 ≤ C6 ∧ C6 ≤ 1000000 := by omega
  have w6 : 0 ≤ C7 ∧ C7 ≤ 1000000 := by omega
  have w7 : 0 ≤ C8 ∧ C8 ≤ 1000000 := by omega
  obtain ⟨⟨x1, y1⟩, ⟨x2, y2⟩, ⟨x3, y3⟩, ⟨x4, y4⟩, ⟨x5, y5⟩, ⟨x6, y6⟩, ⟨x7, y7⟩⟩ := (⟨w1, w2, w3, w4, w5, w6, w7⟩ : _ ∧ _ ∧ _ ∧ _ ∧ _ ∧ _ ∧ _)
  clear w1 w2 w3 w4 w5 w6 w7 hc hb hC0 hC1 hC2 hC3 hC4 hC5 hC6 hC7 hC8 hC9
  go_enter Tryd.func21, Tryd.ntmps21
  go_wp2_with fail
  go_ret
  exact RetB.of rfl (by (repeat (first | exact Below.refl _ _ | assumption | refine Below.setCell ?_ (by first | omega | (simp <;> omega)) _ | refine Below.alloc ?_ (by first | omega | (simp <;> omega)) _ | refine Below.drew ?_ | refine below_drewN' ?_ _)))

set_option maxRecDepth 100000 in
set_option maxHeartbeats 2000000 in
theorem shp_f1 (vi : Value) (g : Bool) (sc : Int) (c0 c1 c2 c3 c4 c5 c6 c7 c8 c9 : Nat) (w : World) (hb : c2 ≤ 1000000 ∧ c3 ≤ 1000000 ∧ c4 ≤ 1000000 ∧ c5 ≤ 1000000 ∧ c6 ≤ 1000000 ∧ c7 ≤ 1000000 ∧ c8 ≤ 1000000)
    (hc : c7 = 0 ∧ c8 = 0 ∧ c6 = 0 ∧ c2 = 0 ∧ 0 < c3 + c4 + c5) :
    Calls Tryd.prog 21 #[.agg #[vi, .bool g, .int .i64 sc], .agg #[.int .i64 c0, .int .i64 c1, .int .i64 c2, .int .i64 c3, .int .i64 c4, .int .i64 c5, .int .i64 c6, .int .i64 c7, .int .i64 c8, .int .i64 c9]] w (RetB (.int .i64 0) w) := by
  obtain ⟨C0, hC0⟩ : ∃ C : Int, C = (c0 : Int) := ⟨_, rfl⟩
  obtain ⟨C1, hC1⟩ : ∃ C : Int, C = (c1 : Int) := ⟨_, rfl⟩
  obtain ⟨C2, hC2⟩ : ∃ C : Int, C = (c2 : Int) := ⟨_, rfl⟩
  obtain ⟨C3, hC3⟩ : ∃ C : Int, C = (c3 : Int) := ⟨_, rfl⟩
  obtain ⟨C4, hC4⟩ : ∃ C : Int, C = (c4 : Int) := ⟨_, rfl⟩
  obtain ⟨C5, hC5⟩ : ∃ C : Int, C = (c5 : Int) := ⟨_, rfl⟩
  obtain ⟨C6, hC6⟩ : ∃ C : Int, C = (c6 : Int) := ⟨_, rfl⟩
  obtain ⟨C7, hC7⟩ : ∃ C : Int, C = (c7 : Int) := ⟨_, rfl⟩
  obtain ⟨C8, hC8⟩ : ∃ C : Int, C = (c8 : Int) := ⟨_, rfl⟩
  obtain ⟨C9, hC9⟩ : ∃ C : Int, C = (c9 : Int) := ⟨_, rfl⟩
  rw [← hC0, ← hC1, ← hC2, ← hC3, ← hC4, ← hC5, ← hC6, ← hC7, ← hC8, ← hC9]
  obtain ⟨N, hN⟩ : ∃ N, C2 + C3 + C4 + C5 + C6 = N := ⟨_, rfl⟩
  first | (have p1 : decide (0 < C7 + C8) = true := decide_eq_true (by omega)) | (have p1 : decide (0 < C7 + C8) = false := decide_eq_false (by omega)) | skip
  first | (have pN : decide (0 < N) = true := decide_eq_true (by omega)) | (have pN : decide (0 < N) = false := decide_eq_false (by omega)) | skip
  first | (have e71 : (C7 == 1) = true := beq_iff_eq.2 (by omega)) | (have e71 : (C7 == 1) = false := beq_eq_false_iff_ne.2 (by omega)) | skip
  first | (have e80 : (C8 == 0) = true := beq_iff_eq.2 (by omega)) | (have e80 : (C8 == 0) = false := beq_eq_false_iff_ne.2 (by omega)) | skip
  first | (have e70 : (C7 == 0) = true := beq_iff_eq.2 (by omega)) | (have e70 : (C7 == 0) = false := beq_eq_false_iff_ne.2 (by omega)) | skip
  first | (have p8 : decide (0 < C8) = true := decide_eq_true (by omega)) | (have p8 : decide (0 < C8) = false := decide_eq_false (by omega)) | skip
  first | (have e90 : (C9 == 0) = true := beq_iff_eq.2 (by omega)) | (have e90 : (C9 == 0) = false := beq_eq_false_iff_ne.2 (by omega)) | skip
  first | (have eN0 : (N == 0) = true := beq_iff_eq.2 (by omega)) | (have eN0 : (N == 0) = false := beq_eq_false_iff_ne.2 (by omega)) | skip
  first | (have e61 : (C6 == 1) = true := beq_iff_eq.2 (by omega)) | (have e61 : (C6 == 1) = false := beq_eq_false_iff_ne.2 (by omega)) | skip
  first | (have s0 : (C3 + C4 + C5 == 0) = true := beq_iff_eq.2 (by omega)) | (have s0 : (C3 + C4 + C5 == 0) = false := beq_eq_false_iff_ne.2 (by omega)) | skip
  first | (have e60 : (C6 == 0) = true := beq_iff_eq.2 (by omega)) | (have e60 : (C6 == 0) = false := beq_eq_false_iff_ne.2 (by omega)) | skip
  first | (have p2 : decide (0 < C2) = true := decide_eq_true (by omega)) | (have p2 : decide (0 < C2) = false := decide_eq_false (by omega)) | skip
  first | (have l3 : decide (C3 ≤ 1) = true := decide_eq_true (by omega)) | (have l3 : decide (C3 ≤ 1) = false := decide_eq_false (by omega)) | skip
  first | (have l4 : decide (C4 ≤ 1) = true := decide_eq_true (by omega)) | (have l4 : decide (C4 ≤ 1) = false := decide_eq_false (by omega)) | skip
  first | (have l5 : decide (C5 ≤ 1) = true := decide_eq_true (by omega)) | (have l5 : decide (C5 ≤ 1) = false := decide_eq_false (by omega)) | skip
  have w1 : 0 ≤ C2 ∧ C2 ≤ 1000000 := by omega
  have w2 : 0 ≤ C3 ∧ C3 ≤ 1000000 := by omega
  have w3 : 0 ≤ C4 ∧ C4 ≤ 1000000 := by omega
  have w4 : 0 ≤ C5 ∧ C5 ≤ 1000000 := by omega
  have w5 : 0 ≤ C6 ∧ C6 ≤ 1000000 := by omega
  have w6 : 0 ≤ C7 ∧ C7 ≤ 1000000 := by omega
  have w7 : 0 ≤ C8 ∧ C8 ≤ 1000000 := by omega
  obtain ⟨⟨x1, y1⟩, ⟨x2, y2⟩, ⟨x3, y3⟩, ⟨x4, y4⟩, ⟨x5, y5⟩, ⟨x6, y6⟩, ⟨x7, y7⟩⟩ := (⟨w1, w2, w3, w4, w5, w6, w7⟩ : _ ∧ _ ∧ _ ∧ _ ∧ _ ∧ _ ∧ _)
  clear w1 w2 w3 w4 w5 w6 w7 hc hb hC0 hC1 hC2 hC3 hC4 hC5 hC6 hC7 hC8 hC9
  go_enter Tryd.func21, Tryd.ntmps21
  go_wp2_with fail
  go_ret
  exact RetB.of rfl (by (repeat (first | exact Below.refl _ _ | assumption | refine Below.setCell ?_ (by first | omega | (simp <;> omega)) _ | refine Below.alloc ?_ (by first | omega | (simp <;> omega)) _ | refine Below.drew ?_ | refine below_drewN' ?_ _)))

set_option maxRecDepth 100000 in
set_option maxHeartbeats 2000000 in
theorem shp_f2 (vi : Value) (g : Bool) (sc : Int) (c0 c1 c2 c3 c4 c5 c6 c7 c8 c9 : Nat) (w : World) (hb : c2 ≤ 1000000 ∧ c3 ≤ 1000000 ∧ c4 ≤ 1000000 ∧ c5 ≤ 1000000 ∧ c6 ≤ 1000000 ∧ c7 ≤ 1000000 ∧ c8 ≤ 1000000)
    (hc : c7 = 0 ∧ c8 = 0 ∧ c6 = 0 ∧ 0 < c2 ∧ 1 < c3) :
    Calls Tryd.prog 21 #[.agg #[vi, .bool g, .int .i64 sc], .agg #[.int .i64 c0, .int .i64 c1, .int .i64 c2, .int .i64 c3, .int .i64 c4, .int .i64 c5, .int .i64 c6, .int .i64 c7, .int .i64 c8, .int .i64 c9]] w (RetB (.int .i64 0) w) := by
  obtain ⟨C0, hC0⟩ : ∃ C : Int, C = (c0 : Int) := ⟨_, rfl⟩
  obtain ⟨C1, hC1⟩ : ∃ C : Int, C = (c1 : Int) := ⟨_, rfl⟩
  obtain ⟨C2, hC2⟩ : ∃ C : Int, C = (c2 : Int) := ⟨_, rfl⟩
  obtain ⟨C3, hC3⟩ : ∃ C : Int, C = (c3 : Int) := ⟨_, rfl⟩
  obtain ⟨C4, hC4⟩ : ∃ C : Int, C = (c4 : Int) := ⟨_, rfl⟩
  obtain ⟨C5, hC5⟩ : ∃ C : Int, C = (c5 : Int) := ⟨_, rfl⟩
  obtain ⟨C6, hC6⟩ : ∃ C : Int, C = (c6 : Int) := ⟨_, rfl⟩
  obtain ⟨C7, hC7⟩ : ∃ C : Int, C = (c7 : Int) := ⟨_, rfl⟩
  obtain ⟨C8, hC8⟩ : ∃ C : Int, C = (c8 : Int) := ⟨_, rfl⟩
  obtain ⟨C9, hC9⟩ : ∃ C : Int, C = (c9 : Int) := ⟨_, rfl⟩
  rw [← hC0, ← hC1, ← hC2, ← hC3, ← hC4, ← hC5, ← hC6, ← hC7, ← hC8, ← hC9]
  obtain ⟨N, hN⟩ : ∃ N, C2 + C3 + C4 + C5 + C6 = N := ⟨_, rfl⟩
  first | (have p1 : decide (0 < C7 + C8) = true := decide_eq_true (by omega)) | (have p1 : decide (0 < C7 + C8) = false := decide_eq_false (by omega)) | skip
  first | (have pN : decide (0 < N) = true := decide_eq_true (by omega)) | (have pN : decide (0 < N) = false := decide_eq_false (by omega)) | skip
  first | (have e71 : (C7 == 1) = true := beq_iff_eq.2 (by omega)) | (have e71 : (C7 == 1) = false := beq_eq_false_iff_ne.2 (by omega)) | skip
  first | (have e80 : (C8 == 0) = true := beq_iff_eq.2 (by omega)) | (have e80 : (C8 == 0) = false := beq_eq_false_iff_ne.2 (by omega)) | skip
  first | (have e70 : (C7 == 0) = true := beq_iff_eq.2 (by omega)) | (have e70 : (C7 == 0) = false := beq_eq_false_iff_ne.2 (by omega)) | skip
  first | (have p8 : decide (0 < C8) = true := decide_eq_true (by omega)) | (have p8 : decide (0 < C8) = false := decide_eq_false (by omega)) | skip
  first | (have e90 : (C9 == 0) = true := beq_iff_eq.2 (by omega)) | (have e90 : (C9 == 0) = false := beq_eq_false_iff_ne.2 (by omega)) | skip
  first | (have eN0 : (N == 0) = true := beq_iff_eq.2 (by omega)) | (have eN0 : (N == 0) = false := beq_eq_false_iff_ne.2 (by omega)) | skip
  first | (have e61 : (C6 == 1) = true := beq_iff_eq.2 (by omega)) | (have e61 : (C6 == 1) = false := beq_eq_false_iff_ne.2 (by omega)) | skip
  first | (have s0 : (C3 + C4 + C5 == 0) = true := beq_iff_eq.2 (by omega)) | (have s0 : (C3 + C4 + C5 == 0) = false := beq_eq_false_iff_ne.2 (by omega)) | skip
  first | (have e60 : (C6 == 0) = true := beq_iff_eq.2 (by omega)) | (have e60 : (C6 == 0) = false := beq_eq_false_iff_ne.2 (by omega)) | skip
  first | (have p2 : decide (0 < C2) = true := decide_eq_true (by omega)) | (have p2 : decide (0 < C2) = false := decide_eq_false (by omega)) | skip
  first | (have l3 : decide (C3 ≤ 1) = true := decide_eq_true (by omega)) | (have l3 : decide (C3 ≤ 1) = false := decide_eq_false (by omega)) | skip
  first | (have l4 : decide (C4 ≤ 1) = true := decide_eq_true (by omega)) | (have l4 : decide (C4 ≤ 1) = false := decide_eq_false (by omega)) | skip
  first | (have l5 : decide (C5 ≤ 1) = true := decide_eq_true (by omega)) | (have l5 : decide (C5 ≤ 1) = false := decide_eq_false (by omega)) | skip
  have w1 : 0 ≤ C2 ∧ C2 ≤ 1000000 := by omega
  have w2 : 0 ≤ C3 ∧ C3 ≤ 1000000 := by omega
  have w3 : 0 ≤ C4 ∧ C4 ≤ 1000000 := by omega
  have w4 : 0 ≤ C5 ∧ C5 ≤ 1000000 := by omega
  have w5 : 0 ≤ C6 ∧ C6 ≤ 1000000 := by omega
  have w6 : 0 ≤ C7 ∧ C7 ≤ 1000000 := by omega
  have w7 : 0 ≤ C8 ∧ C8 ≤ 1000000 := by omega
  obtain ⟨⟨x1, y1⟩, ⟨x2, y2⟩, ⟨x3, y3⟩, ⟨x4, y4⟩, ⟨x5, y5⟩, ⟨x6, y6⟩, ⟨x7, y7⟩⟩ := (⟨w1, w2, w3, w4, w5, w6, w7⟩ : _ ∧ _ ∧ _ ∧ _ ∧ _ ∧ _ ∧ _)
  clear w1 w2 w3 w4 w5 w6 w7 hc hb hC0 hC1 hC2 hC3 hC4 hC5 hC6 hC7 hC8 hC9
  go_enter Tryd.func21, Tryd.ntmps21
  go_wp2_with fail
  go_ret
  exact RetB.of rfl (by (repeat (first | exact Below.refl _ _ | assumption | refine Below.setCell ?_ (by first | omega | (simp <;> omega)) _ | refine Below.alloc ?_ (by first | omega | (simp <;> omega)) _ | refine Below.drew ?_ | refine below_drewN' ?_ _)))

set_option maxRecDepth 100000 in
set_option maxHeartbeats 2000000 in
theorem shp_f3 (vi : Value) (g : Bool) (sc : Int) (c0 c1 c2 c3 c4 c5 c6 c7 c8 c9 : Nat) (w : World) (hb : c2 ≤ 1000000 ∧ c3 ≤ 1000000 ∧ c4 ≤ 1000000 ∧ c5 ≤ 1000000 ∧ c6 ≤ 1000000 ∧ c7 ≤ 1000000 ∧ c8 ≤ 1000000)
    (hc : c7 = 0 ∧ c8 = 0 ∧ c6 = 0 ∧ 0 < c2 ∧ c3 ≤ 1 ∧ 1 < c4) :
    Calls Tryd.prog 21 #[.agg #[vi, .bool g, .int .i64 sc], .agg #[.int .i64 c0, .int .i64 c1, .int .i64 c2, .int .i64 c3, .int .i64 c4, .int .i64 c5, .int .i64 c6, .int .i64 c7, .int .i64 c8, .int .i64 c9]] w (RetB (.int .i64 0) w) := by
  obtain ⟨C0, hC0⟩ : ∃ C : Int, C = (c0 : Int) := ⟨_, rfl⟩
  obtain ⟨C1, hC1⟩ : ∃ C : Int, C = (c1 : Int) := ⟨_, rfl⟩
  obtain ⟨C2, hC2⟩ : ∃ C : Int, C = (c2 : Int) := ⟨_, rfl⟩
  obtain ⟨C3, hC3⟩ : ∃ C : Int, C = (c3 : Int) := ⟨_, rfl⟩
  obtain ⟨C4, hC4⟩ : ∃ C : Int, C = (c4 : Int) := ⟨_, rfl⟩
  obtain ⟨C5, hC5⟩ : ∃ C : Int, C = (c5 : Int) := ⟨_, rfl⟩
  obtain ⟨C6, hC6⟩ : ∃ C : Int, C = (c6 : Int) := ⟨_, rfl⟩
  obtain ⟨C7, hC7⟩ : ∃ C : Int, C = (c7 : Int) := ⟨_, rfl⟩
  obtain ⟨C8, hC8⟩ : ∃ C : Int, C = (c8 : Int) := ⟨_, rfl⟩
  obtain ⟨C9, hC9⟩ : ∃ C : Int, C = (c9 : Int) := ⟨_, rfl⟩
  rw [← hC0, ← hC1, ← hC2, ← hC3, ← hC4, ← hC5, ← hC6, ← hC7, ← hC8, ← hC9]
  obtain ⟨N, hN⟩ : ∃ N, C2 + C3 + C4 + C5 + C6 = N := ⟨_, rfl⟩
  first | (have p1 : decide (0 < C7 + C8) = true := decide_eq_true (by omega)) | (have p1 : decide (0 < C7 + C8) = false := decide_eq_false (by omega)) | skip
  first | (have pN : decide (0 < N) = true := decide_eq_true (by omega)) | (have pN : decide (0 < N) = false := decide_eq_false (by omega)) | skip
  first | (have e71 : (C7 == 1) = true := beq_iff_eq.2 (by omega)) | (have e71 : (C7 == 1) = false := beq_eq_false_iff_ne.2 (by omega)) | skip
  first | (have e80 : (C8 == 0) = true := beq_iff_eq.2 (by omega)) | (have e80 : (C8 == 0) = false := beq_eq_false_iff_ne.2 (by omega)) | skip
  first | (have e70 : (C7 == 0) = true := beq_iff_eq.2 (by omega)) | (have e70 : (C7 == 0) = false := beq_eq_false_iff_ne.2 (by omega)) | skip
  first | (have p8 : decide (0 < C8) = true := decide_eq_true (by omega)) | (have p8 : decide (0 < C8) = false := decide_eq_false (by omega)) | skip
  first | (have e90 : (C9 == 0) = true := beq_iff_eq.2 (by omega)) | (have e90 : (C9 == 0) = false := beq_eq_false_iff_ne.2 (by omega)) | skip
  first | (have eN0 : (N == 0) = true := beq_iff_eq.2 (by omega)) | (have eN0 : (N == 0) = false := beq_eq_false_iff_ne.2 (by omega)) | skip
  first | (have e61 : (C6 == 1) = true := beq_iff_eq.2 (by omega)) | (have e61 : (C6 == 1) = false := beq_eq_false_iff_ne.2 (by omega)) | skip
  first | (have s0 : (C3 + C4 + C5 == 0) = true := beq_iff_eq.2 (by omega)) | (have s0 : (C3 + C4 + C5 == 0) = false := beq_eq_false_iff_ne.2 (by omega)) | skip
  first | (have e60 : (C6 == 0) = true := beq_iff_eq.2 (by omega)) | (have e60 : (C6 == 0) = false := beq_eq_false_iff_ne.2 (by omega)) | skip
  first | (have p2 : decide (0 < C2) = true := decide_eq_true (by omega)) | (have p2 : decide (0 < C2) = false := decide_eq_false (by omega)) | skip
  first | (have l3 : decide (C3 ≤ 1) = true := decide_eq_true (by omega)) | (have l3 : decide (C3 ≤ 1) = false := decide_eq_false (by omega)) | skip
  first | (have l4 : decide (C4 ≤ 1) = true := decide_eq_true (by omega)) | (have l4 : decide (C4 ≤ 1) = false := decide_eq_false (by omega)) | skip
  first | (have l5 : decide (C5 ≤ 1) = true := decide_eq_true (by omega)) | (have l5 : decide (C5 ≤ 1) = false := decide_eq_false (by omega)) | skip
  have w1 : 0 ≤ C2 ∧ C2 ≤ 1000000 := by omega
  have w2 : 0 ≤ C3 ∧ C3 ≤ 1000000 := by omega
  have w3 : 0 ≤ C4 ∧ C4 ≤ 1000000 := by omega
  have w4 : 0 ≤ C5 ∧ C5 ≤ 1000000 := by omega
  have w5 : 0 ≤ C6 ∧ C6 ≤ 1000000 := by omega
  have w6 : 0 ≤ C7 ∧ C7 ≤ 1000000 := by omega
  have w7 : 0 ≤ C8 ∧ C8 ≤ 1000000 := by omega
  obtain ⟨⟨x1, y1⟩, ⟨x2, y2⟩, ⟨x3, y3⟩, ⟨x4, y4⟩, ⟨x5, y5⟩, ⟨x6, y6⟩, ⟨x7, y7⟩⟩ := (⟨w1, w2, w3, w4, w5, w6, w7⟩ : _ ∧ _ ∧ _ ∧ _ ∧ _ ∧ _ ∧ _)
  clear w1 w2 w3 w4 w5 w6 w7 hc hb hC0 hC1 hC2 hC3 hC4 hC5 hC6 hC7 hC8 hC9
  go_enter Tryd.func21, Tryd.ntmps21
  go_wp2_with fail
  go_ret
  exact RetB.of rfl (by (repeat (first | exact Below.refl _ _ | assumption | refine Below.setCell ?_ (by first | omega | (simp <;> omega)) _ | refine Below.alloc ?_ (by first | omega | (simp <;> omega)) _ | refine Below.drew ?_ | refine below_drewN' ?_ _)))

set_option maxRecDepth 100000 in
set_option maxHeartbeats 2000000 in
theorem shp_f4 (vi : Value) (g : Bool) (sc : Int) (c0 c1 c2 c3 c4 c5 c6 c7 c8 c9 : Nat) (w : World) (hb : c2 ≤ 1000000 ∧ c3 ≤ 1000000 ∧ c4 ≤ 1000000 ∧ c5 ≤ 1000000 ∧ c6 ≤ 1000000 ∧ c7 ≤ 1000000 ∧ c8 ≤ 1000000)
    (hc : c7 = 0 ∧ c8 = 0 ∧ c6 = 0 ∧ 0 < c2 ∧ c3 ≤ 1 ∧ c4 ≤ 1 ∧ 1 < c5) :
    Calls Tryd.prog 21 #[.agg #[vi, .bool g, .int .i64 sc], .agg #[.int .i64 c0, .int .i64 c1, .int .i64 c2, .int .i64 c3, .int .i64 c4, .int .i64 c5, .int .i64 c6, .int .i64 c7, .int .i64 c8, .int .i64 c9]] w (RetB (.int .i64 0) w) := by
  obtain ⟨C0, hC0⟩ : ∃ C : Int, C = (c0 : Int) := ⟨_, rfl⟩
  obtain ⟨C1, hC1⟩ : ∃ C : Int, C = (c1 : Int) := ⟨_, rfl⟩
  obtain ⟨C2, hC2⟩ : ∃ C : Int, C = (c2 : Int) := ⟨_, rfl⟩
  obtain ⟨C3, hC3⟩ : ∃ C : Int, C = (c3 : Int) := ⟨_, rfl⟩
  obtain ⟨C4, hC4⟩ : ∃ C : Int, C = (c4 : Int) := ⟨_, rfl⟩
  obtain ⟨C5, hC5⟩ : ∃ C : Int, C = (c5 : Int) := ⟨_, rfl⟩
  obtain ⟨C6, hC6⟩ : ∃ C : Int, C = (c6 : Int) := ⟨_, rfl⟩
  obtain ⟨C7, hC7⟩ : ∃ C : Int, C = (c7 : Int) := ⟨_, rfl⟩
  obtain ⟨C8, hC8⟩ : ∃ C : Int, C = (c8 : Int) := ⟨_, rfl⟩
  obtain ⟨C9, hC9⟩ : ∃ C : Int, C = (c9 : Int) := ⟨_, rfl⟩
  rw [← hC0, ← hC1, ← hC2, ← hC3, ← hC4, ← hC5, ← hC6, ← hC7, ← hC8, ← hC9]
  obtain ⟨N, hN⟩ : ∃ N, C2 + C3 + C4 + C5 + C6 = N := ⟨_, rfl⟩
  first | (have p1 : decide (0 < C7 + C8) = true := decide_eq_true (by omega)) | (have p1 : decide (0 < C7 + C8) = false := decide_eq_false (by omega)) | skip
  first | (have pN : decide (0 < N) = true := decide_eq_true (by omega)) | (have pN : decide (0 < N) = false := decide_eq_false (by omega)) | skip
  first | (have e71 : (C7 == 1) = true := beq_iff_eq.2 (by omega)) | (have e71 : (C7 == 1) = false := beq_eq_false_iff_ne.2 (by omega)) | skip
  first | (have e80 : (C8 == 0) = true := beq_iff_eq.2 (by omega)) | (have e80 : (C8 == 0) = false := beq_eq_false_iff_ne.2 (by omega)) | skip
  first | (have e70 : (C7 == 0) = true := beq_iff_eq.2 (by omega)) | (have e70 : (C7 == 0) = false := beq_eq_false_iff_ne.2 (by omega)) | skip
  first | (have p8 : decide (0 < C8) = true := decide_eq_true (by omega)) | (have p8 : decide (0 < C8) = false := decide_eq_false (by omega)) | skip
  first | (have e90 : (C9 == 0) = true := beq_iff_eq.2 (by omega)) | (have e90 : (C9 == 0) = false := beq_eq_false_iff_ne.2 (by omega)) | skip
  first | (have eN0 : (N == 0) = true := beq_iff_eq.2 (by omega)) | (have eN0 : (N == 0) = false := beq_eq_false_iff_ne.2 (by omega)) | skip
  first | (have e61 : (C6 == 1) = true := beq_iff_eq.2 (by omega)) | (have e61 : (C6 == 1) = false := beq_eq_false_iff_ne.2 (by omega)) | skip
  first | (have s0 : (C3 + C4 + C5 == 0) = true := beq_iff_eq.2 (by omega)) | (have s0 : (C3 + C4 + C5 == 0) = false := beq_eq_false_iff_ne.2 (by omega)) | skip
  first | (have e60 : (C6 == 0) = true := beq_iff_eq.2 (by omega)) | (have e60 : (C6 == 0) = false := beq_eq_false_iff_ne.2 (by omega)) | skip
  first | (have p2 : decide (0 < C2) = true := decide_eq_true (by omega)) | (have p2 : decide (0 < C2) = false := decide_eq_false (by omega)) | skip
  first | (have l3 : decide (C3 ≤ 1) = true := decide_eq_true (by omega)) | (have l3 : decide (C3 ≤ 1) = false := decide_eq_false (by omega)) | skip
  first | (have l4 : decide (C4 ≤ 1) = true := decide_eq_true (by omega)) | (have l4 : decide (C4 ≤ 1) = false := decide_eq_false (by omega)) | skip
  first | (have l5 : decide (C5 ≤ 1) = true := decide_eq_true (by omega)) | (have l5 : decide (C5 ≤ 1) = false := decide_eq_false (by omega)) | skip
  have w1 : 0 ≤ C2 ∧ C2 ≤ 1000000 := by omega
  have w2 : 0 ≤ C3 ∧ C3 ≤ 1000000 := by omega
  have w3 : 0 ≤ C4 ∧ C4 ≤ 1000000 := by omega
  have w4 : 0 ≤ C5 ∧ C5 ≤ 1000000 := by omega
  have w5 : 0 ≤ C6 ∧ C6 ≤ 1000000 := by omega
  have w6 : 0 ≤ C7 ∧ C7 ≤ 1000000 := by omega
  have w7 : 0 ≤ C8 ∧ C8 ≤ 1000000 := by omega
  obtain ⟨⟨x1, y1⟩, ⟨x2, y2⟩, ⟨x3, y3⟩, ⟨x4, y4⟩, ⟨x5, y5⟩, ⟨x6, y6⟩, ⟨x7, y7⟩⟩ := (⟨w1, w2, w3, w4, w5, w6, w7⟩ : _ ∧ _ ∧ _ ∧ _ ∧ _ ∧ _ ∧ _)
  clear w1 w2 w3 w4 w5 w6 w7 hc hb hC0 hC1 hC2 hC3 hC4 hC5 hC6 hC7 hC8 hC9
  go_enter Tryd.func21, Tryd.ntmps21
  go_wp2_with fail
  go_ret
  exact RetB.of rfl (by (repeat (first | exact Below.refl _ _ | assumption | refine Below.setCell ?_ (by first | omega | (simp <;> omega)) _ | refine Below.alloc ?_ (by first | omega | (simp <;> omega)) _ | refine Below.drew ?_ | refine below_drewN' ?_ _)))

end Go.Proofs.YticodcecillciaaDoor
