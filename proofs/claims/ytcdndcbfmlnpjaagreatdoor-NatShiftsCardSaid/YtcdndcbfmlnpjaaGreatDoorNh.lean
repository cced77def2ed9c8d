/- Plain Lean: a text of digits as a number. -/
import Derived.Test.YtcdndcbfmlnpjaaGreatDoorNg
namespace Go.Proofs.YtcdndcbfmlnpjaaGreatDoor.Na
set_option linter.all false
open Go

def isD (c : UInt8) : Bool := decide (48 ≤ c.toNat) && decide (c.toNat ≤ 57)
def num (t : List UInt8) : Nat := t.foldl (fun a c => 10 * a + (c.toNat - 48)) 0
/-- What a text says: a number, or an error (3: its form; 2: too big). -/
def parse (t : List UInt8) : List Nat × Int := if t = [] ∨ t.all isD = false then ([], 3) else fits (num t)

theorem num_from (t : List UInt8) : ∀ a, t.foldl (fun a c => 10 * a + (c.toNat - 48)) a = a * 10 ^ t.length + num t := by
  induction t with
  | nil => intro a; simp [num]
  | cons c t ih =>
    intro a
    have h2 : num (c :: t) = (c.toNat - 48) * 10 ^ t.length + num t := by
      rw [num, List.foldl_cons, Nat.mul_zero, Nat.zero_add, ih]
    rw [List.foldl_cons, ih, h2, List.length_cons, Nat.pow_succ, Nat.add_mul]
    rw [show 10 * a * 10 ^ t.length = a * (10 ^ t.length * 10) by rw [Nat.mul_comm 10 a, Nat.mul_assoc, Nat.mul_comm 10]]
    omega
theorem num_app (a b : List UInt8) : num (a ++ b) = num a * 10 ^ b.length + num b := by
  rw [num, List.foldl_append, num_from]; rfl
theorem num_lt (t : List UInt8) (h : t.all isD = true) : num t < 10 ^ t.length := by
  induction t with
  | nil => simp [num]
  | cons c t ih =>
    rw [List.all_cons, Bool.and_eq_true] at h
    have h1 := ih h.2
    have hc : c.toNat - 48 ≤ 9 := by
      have := h.1; simp only [isD, Bool.and_eq_true, decide_eq_true_eq] at this; omega
    rw [num, List.foldl_cons, Nat.mul_zero, Nat.zero_add, num_from, List.length_cons, Nat.pow_succ]
    have := Nat.mul_le_mul_right (10 ^ t.length) hc
    omega
theorem num_ge (c : UInt8) (t : List UInt8) (h : isD c = true) (h0 : c ≠ 48) : 10 ^ t.length ≤ num (c :: t) := by
  have hc : 1 ≤ c.toNat - 48 := by
    have h1 : c.toNat ≠ 48 := fun e => h0 (UInt8.toNat_inj.1 (by rw [e]; rfl))
    simp only [isD, Bool.and_eq_true, decide_eq_true_eq] at h; omega
  rw [num, List.foldl_cons, Nat.mul_zero, Nat.zero_add, num_from]
  have := Nat.mul_le_mul_right (10 ^ t.length) hc
  omega
theorem num_trim (t : List UInt8) : num (t.dropWhile (· == 48)) = num t := by
  induction t with
  | nil => rfl
  | cons c t ih =>
    by_cases h : (c == 48) = true
    · have hc : c = 48 := by simpa using h
      subst hc
      rw [List.dropWhile_cons, if_pos (by rfl), ih]; rfl
    · rw [List.dropWhile_cons, if_neg (by simpa using h)]
end Go.Proofs.YtcdndcbfmlnpjaaGreatDoor.Na
