/- Plain Lean: a number's digits are read as the number. -/
import Derived.Test.YtcdndcbfmlnpjaaGreatDoorNi
namespace Go.Proofs.YtcdndcbfmlnpjaaGreatDoor.Na
set_option linter.all false
open Go

theorem dig_byte (r : Nat) (h : r < 10) : isD (UInt8.ofNat (48 + r)) = true ∧ (UInt8.ofNat (48 + r)).toNat - 48 = r ∧ (r ≠ 0 → UInt8.ofNat (48 + r) ≠ 48) := by
  have e : (UInt8.ofNat (48 + r)).toNat = 48 + r := by rw [UInt8.toNat_ofNat']; exact Nat.mod_eq_of_lt (by omega)
  refine ⟨by simp only [isD, e, Bool.and_eq_true, decide_eq_true_eq]; omega, by rw [e]; omega, fun h0 e2 => ?_⟩
  have := congrArg UInt8.toNat e2
  rw [e] at this
  have h48 : (48 : UInt8).toNat = 48 := rfl
  omega
theorem num_snoc (t : List UInt8) (c : UInt8) : num (t ++ [c]) = 10 * num t + (c.toNat - 48) := by rw [num, List.foldl_append]; rfl
theorem dec_spec (n : Nat) : (Lib.decDigits n).all isD = true ∧ num (Lib.decDigits n) = n ∧ 0 < (Lib.decDigits n).length ∧ (n ≠ 0 → (Lib.decDigits n)[0]? ≠ some 48) ∧ (n = 0 → (Lib.decDigits n).length = 1) := by
  induction n using Nat.strongRecOn with
  | _ n ih =>
    by_cases h : n < 10
    · rw [Lib.decDigits, dif_pos h]
      obtain ⟨h1, h2, h3⟩ := dig_byte n h
      obtain ⟨c, hc⟩ : ∃ c, c = UInt8.ofNat (48 + n) := ⟨_, rfl⟩
      rw [← hc] at h1 h2 h3 ⊢
      refine ⟨by simp [h1], by simp [num, h2], by simp, fun h0 e => h3 h0 ?_, fun _ => rfl⟩
      simpa using e
    · obtain ⟨i1, i2, i3, i4, _⟩ := ih (n / 10) (by omega)
      obtain ⟨h1, h2, _⟩ := dig_byte (n % 10) (by omega)
      rw [Lib.decDigits, dif_neg h]
      obtain ⟨c, hc⟩ : ∃ c, c = UInt8.ofNat (48 + n % 10) := ⟨_, rfl⟩
      rw [← hc] at h1 h2 ⊢
      refine ⟨by rw [List.all_append, i1]; simp [h1], by rw [num_snoc, i2, h2]; omega, by simp, fun _ => ?_, fun h0 => by omega⟩
      rw [List.getElem?_append_left i3]
      exact i4 (by omega)
theorem bitLen_half {y : Nat} (h : y ≠ 0) : bitLen y = bitLen (y / 2) + 1 := by
  rw [bitLen, if_neg h, bitLen]
  by_cases h1 : y / 2 = 0
  · have : y = 1 := by omega
    subst this; rfl
  · rw [if_neg h1, Nat.log2_def y, if_pos (by omega)]
theorem bitLen_pos' {y : Nat} (h : y ≠ 0) : 0 < bitLen y := by rw [bitLen, if_neg h]; exact Nat.succ_pos _
theorem bitLen_le' {n k : Nat} (h : n < 2 ^ k) : bitLen n ≤ k := by
  by_cases h0 : n = 0
  · subst h0; exact Nat.zero_le _
  · rw [bitLen, if_neg h0]
    exact (Nat.log2_lt h0).2 h
theorem val_drop_at (q : List Nat) (m : Nat) (h : m < q.length) : val (q.drop m) = q[m] + B * val (q.drop (m + 1)) := by
  rw [List.drop_eq_getElem_cons h]; rfl
/-- What was written is read again. -/
theorem parse_dec {n : Nat} (h : n < B ^ 256) : parse (Lib.decDigits n) = (limbs n, 0) := by
  obtain ⟨h1, h2, h3, _⟩ := dec_spec n
  rw [parse, if_neg, h2, fits, if_neg]
  · have := limbs_len_le _ _ h; omega
  · rintro (e | e)
    · rw [e] at h3; simp at h3
    · rw [h1] at e; cases e
end Go.Proofs.YtcdndcbfmlnpjaaGreatDoor.Na
