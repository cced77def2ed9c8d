/- Plain Lean: the product, limb by limb. -/
import Derived.Test.YtcdndcbfmlnpjaaGreatDoorNb
namespace Go.Proofs.YtcdndcbfmlnpjaaGreatDoor.Na
set_option linter.all false
open Go

theorem val_set (o : List Nat) (j v : Nat) : ∀ h : j < o.length, val (o.set j v) + B ^ j * o[j] = val o + B ^ j * v := by
  induction o generalizing j with
  | nil => intro h; simp at h
  | cons x o ih =>
    intro h
    cases j with
    | zero => simp [val]; omega
    | succ j =>
      have hj : j < o.length := by simpa using h
      have := congrArg (B * ·) (ih j hj)
      simp only [Nat.mul_add, ← Nat.mul_assoc] at this
      simp only [List.set_cons_succ, val, List.getElem_cons_succ, Nat.pow_succ, Nat.mul_comm (B ^ j) B]
      omega
theorem ok_set {o : List Nat} (h : OK o) (j v : Nat) (hv : v < 4294967296) : OK (o.set j v) := by
  intro x hx
  rcases List.mem_or_eq_of_mem_set hx with hx | rfl
  · exact h x hx
  · exact hv
theorem val_set_in (o : List Nat) (N j v : Nat) (hj : j < N) (h : j < o.length) : val ((o.set j v).take N) + B ^ j * o[j] = val (o.take N) + B ^ j * v := by
  rw [List.take_set]
  have h2 : j < (o.take N).length := by rw [List.length_take]; omega
  have := val_set (o.take N) j v h2
  rw [List.getElem_take] at this; exact this
theorem prod_le (x y z c : Nat) (hx : x < 4294967296) (hy : y < 4294967296) (hz : z < 4294967296) (hc : c < 4294967296) : x * y ≤ 18446744065119617025 ∧ x * y + z + c < 18446744073709551616 := by
  have := Nat.mul_le_mul (show x ≤ 4294967295 by omega) (show y ≤ 4294967295 by omega)
  omega
theorem mul_step (o : List Nat) (N i j x y z c M rk rk1 : Nat) (hj : i + j < N) (h : i + j < o.length) (hz : o[i + j] = z) (inv : val (o.take N) + B ^ (i + j) * c = M + B ^ i * x * rk) (hr : rk1 = rk + B ^ j * y) :
    val ((o.set (i + j) ((x * y + z + c) % 4294967296)).take N) + B ^ (i + j + 1) * ((x * y + z + c) / 4294967296) = M + B ^ i * x * rk1 := by
  have h1 := val_set_in o N (i + j) ((x * y + z + c) % 4294967296) hj h
  have h2 := split_digit (B ^ (i + j)) (x * y + z + c)
  rw [hz] at h1
  have h3 : B ^ i * x * (B ^ j * y) = B ^ (i + j) * (x * y) := by
    rw [Nat.pow_add, Nat.mul_assoc, Nat.mul_assoc, Nat.mul_left_comm x]
  rw [hr, Nat.mul_add (B ^ i * x), h3, Nat.pow_succ]
  rw [Nat.mul_add, Nat.mul_add] at h2
  simp only [B] at h1 h2 inv ⊢
  omega
theorem mul_row (q r : List Nat) (i x : Nat) (h : val (q.take (i + 1)) = val (q.take i) + B ^ i * x) : val (q.take i) * val r + B ^ i * x * val r = val (q.take (i + 1)) * val r := by
  rw [h, Nat.add_mul]
end Go.Proofs.YtcdndcbfmlnpjaaGreatDoor.Na
