/- Plain Lean: a shift down. -/
import Derived.Test.YtcdndcbfmlnpjaaGreatDoorNf
namespace Go.Proofs.YtcdndcbfmlnpjaaGreatDoor.Na
set_option linter.all false
open Go

theorem shr_head (x y Y Y2 s : Nat) (hs : s < 32) (hx : x < B) (hY : Y = y + B * Y2) : (x + B * Y) / 2 ^ s = ((x + y * B) / 2 ^ s) % B + B * (Y / 2 ^ s) := by
  obtain ⟨p, hp⟩ : ∃ p, p = 2 ^ s := ⟨_, rfl⟩
  obtain ⟨c, hc⟩ : ∃ c, c = 2 ^ (32 - s) := ⟨_, rfl⟩
  have hB : B = p * c := by rw [hp, hc, ← Nat.pow_add, show s + (32 - s) = 32 by omega]
  have hp0 : 0 < p := by rw [hp]; exact Nat.pow_pos (by decide)
  rw [← hp]
  have e1 : (x + B * Y) / p = x / p + c * Y := by rw [hB, Nat.mul_assoc, Nat.add_mul_div_left _ _ hp0]
  have e2 : (x + y * B) / p = x / p + c * y := by rw [hB, Nat.mul_left_comm, Nat.add_mul_div_left _ _ hp0, Nat.mul_comm y]
  have hmod : Y % p = y % p := by rw [hY, hB, Nat.mul_assoc, Nat.add_mul_mod_self_left]
  have h1 : c * Y = B * (Y / p) + c * (y % p) := by
    have := congrArg (c * ·) (Nat.div_add_mod Y p)
    simp only [Nat.mul_add, hmod] at this
    rw [← this, hB, ← Nat.mul_assoc, Nat.mul_comm c p]
  have h2 : c * y = B * (y / p) + c * (y % p) := by
    have := congrArg (c * ·) (Nat.div_add_mod y p)
    simp only [Nat.mul_add] at this
    rw [← this, hB, ← Nat.mul_assoc, Nat.mul_comm c p]
  have hxc : x / p < c := by rw [Nat.div_lt_iff_lt_mul hp0, Nat.mul_comm, ← hB]; exact hx
  have hm : c * (y % p) + c ≤ B := by
    have := Nat.mul_le_mul_left c (show y % p + 1 ≤ p from Nat.mod_lt _ hp0)
    rw [Nat.mul_add, Nat.mul_one, Nat.mul_comm c p, ← hB] at this; exact this
  rw [e1, e2, h1, h2]
  have e3 : (x / p + (B * (y / p) + c * (y % p))) % B = x / p + c * (y % p) := by
    rw [show x / p + (B * (y / p) + c * (y % p)) = (x / p + c * (y % p)) + B * (y / p) by omega, Nat.add_mul_mod_self_left, Nat.mod_eq_of_lt (by omega)]
  rw [e3]; omega
theorem shr_lost (L V k s : Nat) (hL : L < B ^ k) : (L + B ^ k * V) / 2 ^ (32 * k + s) = V / 2 ^ s ∧ ((L + B ^ k * V) % 2 ^ (32 * k + s) ≠ 0 ↔ L ≠ 0 ∨ V % 2 ^ s ≠ 0) := by
  have hB : 2 ^ (32 * k) = B ^ k := by rw [Nat.pow_mul]
  have h0 : 0 < B ^ k := Nat.pow_pos (by decide)
  rw [Nat.pow_add, hB]
  constructor
  · rw [← Nat.div_div_eq_div_mul, Nat.add_mul_div_left _ _ h0, Nat.div_eq_of_lt hL, Nat.zero_add]
  · have e : (L + B ^ k * V) % (B ^ k * 2 ^ s) = L + B ^ k * (V % 2 ^ s) := by
      rw [Nat.mod_mul, Nat.add_mul_div_left _ _ h0, Nat.div_eq_of_lt hL, Nat.zero_add, Nat.add_mul_mod_self_left, Nat.mod_eq_of_lt hL]
    rw [e]
    constructor
    · intro h
      rcases Nat.eq_zero_or_pos L with hl | hl
      · rcases Nat.eq_zero_or_pos (V % 2 ^ s) with hv | hv
        · rw [hl, hv] at h; simp at h
        · right; omega
      · left; omega
    · rintro (h | h)
      · omega
      · have := Nat.mul_pos h0 (show 0 < V % 2 ^ s by omega); omega
theorem and_mask (x s : Nat) (hx : x < 4294967296) (hs : s < 32) : bits BinOp.and IntKind.u32 (x : Int) ((2 ^ s - 1 : Nat) : Int) = ((x % 2 ^ s : Nat) : Int) := by
  have h1 : 2 ^ s ≤ 2 ^ 31 := Nat.pow_le_pow_right (by decide) (by omega)
  rw [(bits_and_u32 x (2 ^ s - 1) hx (by omega)).1, Nat.and_two_pow_sub_one_eq_mod]
end Go.Proofs.YtcdndcbfmlnpjaaGreatDoor.Na
