/- Plain Lean: division by one limb. -/
import Derived.Test.YtcdndcbfmlnpjaaGreatDoorNc
namespace Go.Proofs.YtcdndcbfmlnpjaaGreatDoor.Na
set_option linter.all false
open Go

theorem short_step (N d : Nat) (o : List Nat) (n t r z : Nat) (ht : t < n) (hto : t < o.length) (hz : o[t] = z)
    (inv : N + d * val (o.take (t + 1)) = val (o.take (t + 1)) + B ^ (t + 1) * r + d * val (o.take n)) :
    N + d * val ((o.set t ((r * 4294967296 + z) / d)).take t) = val ((o.set t ((r * 4294967296 + z) / d)).take t) + B ^ t * ((r * 4294967296 + z) % d) + d * val ((o.set t ((r * 4294967296 + z) / d)).take n) := by
  have h1 := val_set_in o n t ((r * 4294967296 + z) / d) ht hto
  have h2 := val_take_succ o t hto
  rw [hz] at h1 h2
  rw [List.take_set_of_le (Nat.le_refl _)]
  have h3 := congrArg (d * ·) h1
  simp only [Nat.mul_add] at h3
  have h4 : B ^ t * (d * ((r * 4294967296 + z) / d)) + B ^ t * ((r * 4294967296 + z) % d) = B ^ t * (r * 4294967296) + B ^ t * z := by
    rw [← Nat.mul_add, Nat.div_add_mod, Nat.mul_add]
  rw [h2, Nat.mul_add, Nat.pow_succ] at inv
  have h5 : B ^ t * (d * ((r * 4294967296 + z) / d)) = d * (B ^ t * ((r * 4294967296 + z) / d)) := by rw [Nat.mul_left_comm]
  have h6 : B ^ t * B * r = B ^ t * (r * 4294967296) := by rw [Nat.mul_assoc, Nat.mul_comm B r]
  rw [h6] at inv
  rw [h5] at h4
  omega
theorem short_end (N d V r : Nat) (hr : r < d) (h : N = r + d * V) : V = N / d ∧ r = N % d := by
  subst h
  rw [Nat.add_mul_div_left _ _ (by omega), Nat.add_mul_mod_self_left, Nat.div_eq_of_lt hr, Nat.mod_eq_of_lt hr]; simp
theorem or_limb (r z : Nat) (hr : r < 4294967296) (hz : z < 4294967296) : bits BinOp.or IntKind.u64 ((r * 4294967296 : Nat) : Int) (z : Int) = ((r * 4294967296 + z : Nat) : Int) := by
  rw [bits_or_u64_nat _ _ (by omega) (by omega)]
  congr 1
  have := Nat.two_pow_add_eq_or_of_lt (show z < 2 ^ 32 by omega) r
  rw [Nat.mul_comm (2 ^ 32)] at this
  exact this.symm
theorem short_lt (r z d : Nat) (hr : r < d) (hz : z < 4294967296) : (r * 4294967296 + z) / d < 4294967296 := by
  rw [Nat.div_lt_iff_lt_mul (by omega)]
  have := Nat.mul_le_mul_right 4294967296 (show r + 1 ≤ d by omega)
  rw [Nat.mul_comm 4294967296 d]; omega
end Go.Proofs.YtcdndcbfmlnpjaaGreatDoor.Na
