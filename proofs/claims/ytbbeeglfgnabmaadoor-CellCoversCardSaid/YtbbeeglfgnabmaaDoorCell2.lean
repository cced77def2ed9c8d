/- Plain Lean: areas of cells. -/
import Derived.Test.YtbbeeglfgnabmaaDoorCell
namespace Go.Proofs.YtbbeeglfgnabmaaDoor.Ce
set_option linter.all false
open Dc (Bs)

def lo (a b : Rf) : Rf := ⟨min a.col b.col, min a.row b.row, false, false⟩
def hi (a b : Rf) : Rf := ⟨max a.col b.col, max a.row b.row, false, false⟩
def both (a b : Rf) : Bool := right a && right b
def wide (a b : Rf) : Nat := ((hi a b).col - (lo a b).col + 1).toNat
def high (a b : Rf) : Nat := ((hi a b).row - (lo a b).row + 1).toNat
/-- The k-th cell from one on, so many to a row. -/
def cellAt (c r : Int) (nc k : Nat) : Rf := ⟨c + ((k % nc : Nat) : Int), r + ((k / nc : Nat) : Int), false, false⟩
def cells (a b : Rf) : List Rf := if both a b then (List.range (high a b * wide a b)).map (cellAt (lo a b).col (lo a b).row (wide a b)) else []
def area (a b : Rf) : Int := if both a b then ((hi a b).row - (lo a b).row + 1) * ((hi a b).col - (lo a b).col + 1) else 0
def inside (r a b : Rf) : Bool := both a b && (decide ((lo a b).col ≤ r.col) && (decide (r.col ≤ (hi a b).col) && (decide ((lo a b).row ≤ r.row) && decide (r.row ≤ (hi a b).row))))

theorem both_bd {a b : Rf} (h : both a b = true) : 0 ≤ (lo a b).col ∧ (lo a b).col ≤ (hi a b).col ∧ (hi a b).col < 64 ∧ 0 ≤ (lo a b).row ∧ (lo a b).row ≤ (hi a b).row ∧ (hi a b).row < 1000 := by
  unfold both at h
  rw [Bool.and_eq_true] at h
  have h1 := (right_iff a).1 h.1
  have h2 := (right_iff b).1 h.2
  simp only [lo, hi]
  omega
theorem wide_bd {a b : Rf} (h : both a b = true) : 1 ≤ wide a b ∧ (wide a b : Int) = (hi a b).col - (lo a b).col + 1 ∧ 1 ≤ high a b ∧ (high a b : Int) = (hi a b).row - (lo a b).row + 1 ∧ wide a b ≤ 64 ∧ high a b ≤ 1000 := by
  have := both_bd h
  unfold wide high
  omega
theorem both_comm (a b : Rf) : both a b = both b a := by unfold both; exact Bool.and_comm _ _
theorem lo_comm (a b : Rf) : lo a b = lo b a := by simp only [lo, Int.min_comm]
theorem hi_comm (a b : Rf) : hi a b = hi b a := by simp only [hi, Int.max_comm]
theorem area_comm (a b : Rf) : area a b = area b a := by unfold area; rw [both_comm, lo_comm, hi_comm]
theorem inside_comm (r a b : Rf) : inside r a b = inside r b a := by unfold inside; rw [both_comm, lo_comm, hi_comm]

theorem cells_len (a b : Rf) : ((cells a b).length : Int) = area a b := by
  unfold cells area
  split
  · rename_i h
    obtain ⟨_, h2, _, h4, _⟩ := wide_bd h
    rw [List.length_map, List.length_range, Int.natCast_mul, h2, h4]
  · rfl
theorem area_bd (a b : Rf) : 0 ≤ area a b ∧ area a b ≤ 64000 := by
  rw [← cells_len]
  unfold cells
  split
  · rename_i h
    obtain ⟨_, _, _, _, h5, h6⟩ := wide_bd h
    rw [List.length_map, List.length_range]
    have : high a b * wide a b ≤ 1000 * 64 := Nat.mul_le_mul h6 h5
    omega
  · simp
theorem cells_get (a b : Rf) (k : Nat) (h : k < (cells a b).length) : both a b = true ∧ k < high a b * wide a b ∧ (cells a b)[k] = cellAt (lo a b).col (lo a b).row (wide a b) k := by
  unfold cells at h ⊢
  split at h
  · rename_i hb
    refine ⟨hb, by simpa using h, ?_⟩
    simp [hb]
  · simp at h

theorem div_lt {k n m : Nat} (h : k < n * m) (hm : 1 ≤ m) : k / m < n ∧ k % m < m := ⟨(Nat.div_lt_iff_lt_mul (by omega)).2 h, Nat.mod_lt _ (by omega)⟩

theorem cell_inside (a b : Rf) (k : Nat) (h : k < (cells a b).length) : inside (cells a b)[k] a b = true ∧ (cells a b)[k].ac = false ∧ (cells a b)[k].ar = false ∧ right (cells a b)[k] = true := by
  obtain ⟨hb, hk, he⟩ := cells_get a b k h
  obtain ⟨w1, w2, w3, w4, _⟩ := wide_bd hb
  have bd := both_bd hb
  obtain ⟨d1, d2⟩ := div_lt hk w1
  rw [he]
  unfold cellAt
  generalize k / wide a b = q at d1
  generalize k % wide a b = m at d2
  refine ⟨?_, rfl, rfl, ?_⟩
  · simp only [inside, hb, Bool.true_and, Bool.and_eq_true, decide_eq_true_eq]; omega
  · rw [right_iff]; simp only []; omega

theorem step_div (k m : Nat) (hm : 1 ≤ m) : (k % m + 1 < m ∧ (k + 1) / m = k / m ∧ (k + 1) % m = k % m + 1) ∨ (k % m + 1 = m ∧ (k + 1) / m = k / m + 1 ∧ (k + 1) % m = 0) := by
  have h := Nat.div_add_mod k m
  have hlt := Nat.mod_lt k (show m > 0 by omega)
  by_cases hc : k % m + 1 < m
  · left
    have e : k + 1 = (k % m + 1) + m * (k / m) := by omega
    refine ⟨hc, ?_, ?_⟩
    · rw [e, Nat.add_mul_div_left _ _ (by omega), Nat.div_eq_of_lt hc]; omega
    · rw [e, Nat.add_mul_mod_self_left, Nat.mod_eq_of_lt hc]
  · right
    have e1 : k % m + 1 = m := by omega
    have e : k + 1 = m * (k / m + 1) := by rw [Nat.mul_add, Nat.mul_one]; omega
    refine ⟨e1, ?_, ?_⟩
    · rw [e, Nat.mul_div_cancel_left _ (by omega)]
    · rw [e, Nat.mul_mod_right]

theorem cell_rise (a b : Rf) (k : Nat) (h : k + 1 < (cells a b).length) : index (cells a b)[k] < index (cells a b)[k + 1] := by
  obtain ⟨hb, hk, he⟩ := cells_get a b k (by omega)
  obtain ⟨_, hk2, he2⟩ := cells_get a b (k + 1) h
  have r1 := (cell_inside a b k (by omega)).2.2.2
  have r2 := (cell_inside a b (k + 1) h).2.2.2
  rw [index, index, if_pos r1, if_pos r2, he, he2]
  obtain ⟨w1, w2, _⟩ := wide_bd hb
  have bd := both_bd hb
  simp only [cellAt]
  rcases step_div k (wide a b) w1 with ⟨h1, h2, h3⟩ | ⟨h1, h2, h3⟩
  · rw [h2, h3]; generalize k / wide a b = q; generalize k % wide a b = m at h1; omega
  · rw [h2, h3]; generalize k / wide a b = q; generalize k % wide a b = m at h1; omega

theorem cell_met (a b r : Rf) : ((cells a b).any fun x => decide (x = ⟨r.col, r.row, false, false⟩)) = inside r a b := by
  rw [Bool.eq_iff_iff, List.any_eq_true]
  constructor
  · rintro ⟨x, hx, he⟩
    obtain ⟨k, hk, rfl⟩ := List.getElem_of_mem hx
    have h1 := (cell_inside a b k hk).1
    have he2 := of_decide_eq_true he
    rw [he2] at h1
    exact h1
  · intro h
    unfold inside at h
    simp only [Bool.and_eq_true, decide_eq_true_eq] at h
    obtain ⟨hb, h1, h2, h3, h4⟩ := h
    obtain ⟨w1, w2, w3, w4, _⟩ := wide_bd hb
    obtain ⟨i, hi⟩ : ∃ i : Nat, (i : Int) = r.row - (lo a b).row := ⟨(r.row - (lo a b).row).toNat, by omega⟩
    obtain ⟨j, hj⟩ : ∃ i : Nat, (i : Int) = r.col - (lo a b).col := ⟨(r.col - (lo a b).col).toNat, by omega⟩
    have hjw : j < wide a b := by omega
    have hih : i < high a b := by omega
    have hk : j + wide a b * i < high a b * wide a b := by
      have : wide a b * (i + 1) ≤ wide a b * high a b := Nat.mul_le_mul_left _ hih
      rw [Nat.mul_add, Nat.mul_one, Nat.mul_comm (wide a b) (high a b)] at this
      omega
    refine ⟨cellAt (lo a b).col (lo a b).row (wide a b) (j + wide a b * i), ?_, ?_⟩
    · unfold cells
      rw [if_pos hb]
      exact List.mem_map.2 ⟨_, List.mem_range.2 hk, rfl⟩
    · apply decide_eq_true
      unfold cellAt
      rw [Nat.add_mul_mod_self_left, Nat.mod_eq_of_lt hjw, Nat.add_mul_div_left _ _ (by omega), Nat.div_eq_of_lt hjw]
      congr 1 <;> omega
end Go.Proofs.YtbbeeglfgnabmaaDoor.Ce
