/- Plain Lean: a number's digits, nine at a time. -/
import Derived.Test.YtcdndcbfmlnpjaaGreatDoorNe
import Derived.Lib.ItoaNum
import Derived.Lib.RepeatB
namespace Go.Proofs.YtcdndcbfmlnpjaaGreatDoor.Na
set_option linter.all false
open Go

def padk : Nat → Nat → List UInt8
  | 0, _ => []
  | k + 1, r => padk k (r / 10) ++ [UInt8.ofNat (48 + r % 10)]
theorem padk_len (k r : Nat) : (padk k r).length = k := by
  induction k generalizing r with
  | zero => rfl
  | succ k ih => rw [padk, List.length_append, ih]; rfl
theorem dec_app (v : Nat) (hv : v ≠ 0) (k : Nat) : ∀ r, r < 10 ^ k → Lib.decDigits (v * 10 ^ k + r) = Lib.decDigits v ++ padk k r := by
  induction k with
  | zero =>
    intro r hr
    have h0 : r = 0 := by rw [Nat.pow_zero] at hr; omega
    rw [h0]; simp [padk]
  | succ k ih =>
    intro r hr
    rw [Nat.pow_succ] at hr
    have h1 : 10 * 10 ^ k ≤ v * 10 ^ (k + 1) := by
      rw [Nat.pow_succ, Nat.mul_comm (10 ^ k) 10]
      exact Nat.le_mul_of_pos_left _ (by omega)
    have h2 : 0 < 10 ^ k := Nat.pow_pos (by decide)
    rw [Lib.decDigits, dif_neg (by omega)]
    have e : v * 10 ^ (k + 1) + r = 10 * (v * 10 ^ k) + r := by rw [Nat.pow_succ, ← Nat.mul_assoc, Nat.mul_comm _ 10]
    have e1 : (v * 10 ^ (k + 1) + r) / 10 = v * 10 ^ k + r / 10 := by omega
    have e2 : (v * 10 ^ (k + 1) + r) % 10 = r % 10 := by omega
    rw [e1, e2, ih (r / 10) (by omega), padk, List.append_assoc]
theorem padk_eq (k : Nat) : ∀ r, r < 10 ^ (k + 1) → padk (k + 1) r = List.replicate (k + 1 - (Lib.decDigits r).length) 48 ++ Lib.decDigits r ∧ (Lib.decDigits r).length ≤ k + 1 := by
  induction k with
  | zero => intro r hr; rw [Lib.decDigits, dif_pos (by simpa using hr)]; simp [padk, Nat.mod_eq_of_lt (show r < 10 by simpa using hr)]
  | succ k ih =>
    intro r hr
    by_cases h : r < 10
    · rw [Lib.decDigits, dif_pos h]
      obtain ⟨e, _⟩ := ih (r / 10) (Nat.lt_of_lt_of_le (show r / 10 < 1 by omega) (Nat.one_le_pow _ _ (by decide)))
      rw [padk, e, show r / 10 = 0 by omega, Lib.decDigits, dif_pos (by decide), Nat.mod_eq_of_lt h]
      refine ⟨?_, by simp⟩
      rw [show k + 1 + 1 - [UInt8.ofNat (48 + r)].length = k + 1 - [UInt8.ofNat (48 + 0)].length + 1 by simp, List.replicate_succ']
      simp
    · rw [Nat.pow_succ] at hr
      obtain ⟨e, hl⟩ := ih (r / 10) (by omega)
      rw [Lib.decDigits, dif_neg h, padk, e, List.length_append, List.length_singleton]
      exact ⟨by rw [show k + 1 + 1 - ((Lib.decDigits (r / 10)).length + 1) = k + 1 - (Lib.decDigits (r / 10)).length by omega, List.append_assoc], by omega⟩
theorem dig_step (v : Nat) (hv : v / 1000000000 ≠ 0) : Lib.decDigits v = Lib.decDigits (v / 1000000000) ++ (List.replicate (9 - (Lib.decDigits (v % 1000000000)).length) 48 ++ Lib.decDigits (v % 1000000000)) := by
  have h1 : v % 1000000000 < 10 ^ 9 := Nat.mod_lt _ (by decide)
  rw [← (padk_eq 8 _ h1).1, ← dec_app _ hv 9 _ h1]
  congr 1
  have := Nat.div_add_mod v 1000000000
  omega
theorem dig_len (v : Nat) : (Lib.decDigits (v % 1000000000)).length ≤ 9 := (padk_eq 8 _ (Nat.mod_lt _ (by decide))).2
theorem rep48 (m : Nat) : Lib.repeatL [48] m = List.replicate m 48 := by
  induction m with
  | zero => rfl
  | succ m ih => rw [Lib.repeatL, ih, List.replicate_succ]; rfl
end Go.Proofs.YtcdndcbfmlnpjaaGreatDoor.Na
