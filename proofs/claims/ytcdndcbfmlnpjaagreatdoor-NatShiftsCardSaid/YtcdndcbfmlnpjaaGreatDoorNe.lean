/- Plain Lean: a shift up by less than a limb. -/
import Derived.Test.YtcdndcbfmlnpjaaGreatDoorNd
namespace Go.Proofs.YtcdndcbfmlnpjaaGreatDoor.Na
set_option linter.all false
open Go

theorem shift_lt (c x s : Nat) (hs : s < 32) (hc : c < 2 ^ s) (hx : x < 4294967296) : c + x * 2 ^ s < 18446744073709551616 ∧ (c + x * 2 ^ s) / 4294967296 < 2 ^ s := by
  have h1 : 2 ^ s ≤ 2 ^ 31 := Nat.pow_le_pow_right (by decide) (by omega)
  have h2 : x * 2 ^ s + 2 ^ s ≤ 4294967296 * 2 ^ s := by
    have := Nat.mul_le_mul_right (2 ^ s) (show x + 1 ≤ 4294967296 by omega)
    rwa [Nat.add_mul, Nat.one_mul] at this
  constructor
  · omega
  · rw [Nat.div_lt_iff_lt_mul (by decide)]; omega
theorem drop_set (O : List Nat) (off k v : Nat) : (O.set (off + k) v).drop off = (O.drop off).set k v := by
  rw [List.drop_set]
  rw [if_neg (by omega), Nat.add_sub_cancel_left]
theorem shift_step (O q : List Nat) (off k c x s : Nat) (hk : off + k < O.length) (inv : val ((O.drop off).take k) + B ^ k * c = val (q.take k) * 2 ^ s) (hq : val (q.take (k + 1)) = val (q.take k) + B ^ k * x) :
    val (((O.set (off + k) ((c + x * 2 ^ s) % 4294967296)).drop off).take (k + 1)) + B ^ (k + 1) * ((c + x * 2 ^ s) / 4294967296) = val (q.take (k + 1)) * 2 ^ s := by
  rw [drop_set, val_set_take _ k _ (by rw [List.length_drop]; omega), hq, Nat.pow_succ, Nat.add_mul, ← inv]
  have h := split_digit (B ^ k) (c + x * 2 ^ s)
  rw [Nat.mul_add, ← Nat.mul_assoc] at h
  simp only [B] at h ⊢
  omega
theorem shl_val (O q : List Nat) (p s N : Nat) (cc v : Nat) (hz : val (O.take p) = 0) (hp : p ≤ O.length) (h : val (O.drop p) + B ^ N * cc = val q * 2 ^ s) (hv : val q * 2 ^ s < B ^ N) (hn : v = val q * 2 ^ (32 * p + s)) : val O = v := by
  have h0 : cc = 0 := by
    rcases Nat.eq_zero_or_pos cc with h0 | h0
    · exact h0
    · have := Nat.mul_le_mul_left (B ^ N) h0
      omega
  rw [h0] at h
  rw [val_take_drop O p hp, hz, hn, Nat.pow_add, show 2 ^ (32 * p) = B ^ p by rw [Nat.pow_mul]]
  rw [Nat.mul_zero, Nat.add_zero] at h
  rw [h, Nat.zero_add, Nat.mul_left_comm]
end Go.Proofs.YtcdndcbfmlnpjaaGreatDoor.Na
