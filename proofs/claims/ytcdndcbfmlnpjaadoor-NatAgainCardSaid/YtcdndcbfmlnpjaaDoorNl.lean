/- Plain Lean: a step of long division, in lists. -/
import Derived.Test.YtcdndcbfmlnpjaaDoorNk
namespace Go.Proofs.YtcdndcbfmlnpjaaDoor.Na
set_option linter.all false
open Go

theorem val_drop_cons (U : List Nat) (j : Nat) (h : j < U.length) : val (U.drop j) = U[j] + B * val (U.drop (j + 1)) := by
  rw [List.drop_eq_getElem_cons h]; rfl
theorem drop_take_succ (U : List Nat) (j k : Nat) (h : j + k < U.length) : val ((U.drop j).take (k + 1)) = val ((U.drop j).take k) + B ^ k * U[j + k] := by
  rw [val_take_succ _ k (by rw [List.length_drop]; omega), List.getElem_drop]
theorem val_take_lt (U : List Nat) (h : OK U) (j k : Nat) : val ((U.drop j).take k) < B ^ k := by
  have h1 := val_lt ((U.drop j).take k) (ok_take (ok_drop h j) k)
  exact Nat.lt_of_lt_of_le h1 (Nat.pow_le_pow_right (by decide) (by rw [List.length_take]; omega))

/-- The number that a step divides: the divisor's limbs and one more. -/
theorem kn_of (U V : List Nat) (j n : Nat) (hU : OK U) (hV : OK V) (hVl : V.length = n + 2) (hj : j + n + 2 < U.length) (u0 u1 u2 v1 v2 : Nat) (e0 : U[j + n + 2]? = some u0) (e1 : U[j + n + 1]? = some u1) (e2 : U[j + n]? = some u2) (f1 : V[n + 1]? = some v1) (f2 : V[n]? = some v2) (hv : 0 < v1)
    (hlt : val (U.drop (j + 1)) < val V) :
    Kn (val ((U.drop j).take (n + 3))) (val V) (B ^ n) (u0 * B + u1) u2 (val ((U.drop j).take n)) v1 v2 (val (V.take n)) ∧ val (U.drop (j + n + 3)) = 0 := by
  obtain ⟨_, rfl⟩ := List.getElem?_eq_some_iff.1 e0
  obtain ⟨_, rfl⟩ := List.getElem?_eq_some_iff.1 e1
  obtain ⟨_, rfl⟩ := List.getElem?_eq_some_iff.1 e2
  obtain ⟨_, rfl⟩ := List.getElem?_eq_some_iff.1 f1
  obtain ⟨_, rfl⟩ := List.getElem?_eq_some_iff.1 f2
  have hX : val ((U.drop j).take (n + 3)) = ((U[j + n + 2] * B + U[j + n + 1]) * B + U[j + n]) * B ^ n + val ((U.drop j).take n) := by
    rw [drop_take_succ U j (n + 2) hj, drop_take_succ U j (n + 1) (by omega), drop_take_succ U j n (by omega)]
    simp only [show j + (n + 2) = j + n + 2 by omega, show j + (n + 1) = j + n + 1 by omega]
    rw [show B ^ (n + 2) = B ^ n * B * B by rw [Nat.pow_succ, Nat.pow_succ], show B ^ (n + 1) = B ^ n * B by rw [Nat.pow_succ]]
    simp only [Nat.add_mul, Nat.mul_add, Nat.mul_comm, Nat.mul_left_comm, Nat.mul_assoc]
    omega
  have hVe : val V = (V[n + 1] * B + V[n]) * B ^ n + val (V.take n) := by
    have h1 := val_take_succ V (n + 1) (by omega)
    rw [List.take_of_length_le (by omega), val_take_succ V n (by omega)] at h1
    rw [h1, Nat.pow_succ, Nat.add_mul, Nat.mul_assoc (B ^ n) B, Nat.mul_comm (B ^ n) (B * V[n + 1]), Nat.mul_comm (B ^ n) V[n], Nat.mul_comm B V[n + 1]]
    omega
  have hVlt : val V < B ^ (n + 2) := by have := val_lt V hV; rwa [hVl] at this
  have hall : val (U.drop j) < val V * B := by
    rw [val_drop_cons U j (by omega)]
    have h1 : U[j] < B := hU _ (List.getElem_mem _)
    have h2 := Nat.mul_le_mul_left B (show val (U.drop (j + 1)) + 1 ≤ val V from hlt)
    rw [Nat.mul_add, Nat.mul_one] at h2
    rw [Nat.mul_comm (val V)]
    omega
  have hsplit := val_take_drop (U.drop j) (n + 3) (by rw [List.length_drop]; omega)
  rw [List.drop_drop, show j + (n + 3) = j + n + 3 by omega] at hsplit
  have h0 : val (U.drop (j + n + 3)) = 0 := by
    rcases Nat.eq_zero_or_pos (val (U.drop (j + n + 3))) with h | h
    · exact h
    · exfalso
      have h1 := Nat.mul_le_mul_left (B ^ (n + 3)) h
      have h2 : val V * B ≤ B ^ (n + 3) := by rw [Nat.pow_succ B (n + 2)]; exact Nat.mul_le_mul_right B (Nat.le_of_lt hVlt)
      omega
  have hlow := val_take_lt V hV 0 n
  rw [List.drop_zero] at hlow
  have hXe : val (U.drop j) = val ((U.drop j).take (n + 3)) := by rw [h0, Nat.mul_zero, Nat.add_zero] at hsplit; exact hsplit
  exact ⟨⟨hX, hVe, val_take_lt U hU j n, hlow, hU _ (List.getElem_mem _), hV _ (List.getElem_mem _), hv, by rw [← hXe]; exact hall⟩, h0⟩

/-- What is left where a step's limbs are exchanged for their remainder. -/
theorem kn_next (U U' Q : List Nat) (j n X VV r q A : Nat) (hl : U'.length = U.length) (hj : j + n + 2 < U.length) (hjQ : j < Q.length) (ht : U'.take j = U.take j) (hd : U'.drop (j + n + 3) = U.drop (j + n + 3)) (h0 : val (U.drop (j + n + 3)) = 0)
    (hX : val ((U.drop j).take (n + 3)) = X) (hr : val ((U'.drop j).take (n + 3)) = r) (he : X = VV * q + r) (inv : val U + VV * (B ^ (j + 1) * val (Q.drop (j + 1))) = A) :
    val U' + VV * (B ^ j * val ((Q.set j q).drop j)) = A ∧ val (U'.drop j) = r := by
  have s1 := val_take_drop (U.drop j) (n + 3) (by rw [List.length_drop]; omega)
  have s2 := val_take_drop (U'.drop j) (n + 3) (by rw [List.length_drop]; omega)
  rw [List.drop_drop, show j + (n + 3) = j + n + 3 by omega, h0, Nat.mul_zero, Nat.add_zero, hX] at s1
  rw [List.drop_drop, show j + (n + 3) = j + n + 3 by omega, hd, h0, Nat.mul_zero, Nat.add_zero, hr] at s2
  refine ⟨?_, s2⟩
  have t1 := val_take_drop U j (by omega)
  have t2 := val_take_drop U' j (by omega)
  rw [s1] at t1
  rw [s2, ht] at t2
  have hQ : val ((Q.set j q).drop j) = q + B * val (Q.drop (j + 1)) := by
    rw [val_drop_cons _ j (by rw [List.length_set]; exact hjQ), List.getElem_set_self, List.drop_set, if_pos (by omega)]
  rw [hQ, t2, ← inv, t1, he]
  simp only [Nat.mul_add, Nat.pow_succ]
  rw [Nat.mul_assoc (B ^ j) B, Nat.mul_left_comm (B ^ j) VV q]
  omega
/-- The last step: quotient and remainder. -/
theorem kn_done (U Q VV a b s : Nat) (hb : VV = b * 2 ^ s) (hlt : U < VV) (h : U + VV * (1 * Q) = a * 2 ^ s) : Q = a / b ∧ U / 2 ^ s = a % b := by
  have hs : 0 < 2 ^ s := Nat.pow_pos (by decide)
  have hb0 : 0 < b := by
    rcases Nat.eq_zero_or_pos b with h | h
    · rw [h, Nat.zero_mul] at hb; omega
    · exact h
  rw [Nat.one_mul, hb] at h
  rw [hb] at hlt
  have h1 : U / 2 ^ s + b * Q = a := by
    have e : (U + b * 2 ^ s * Q) / 2 ^ s = a := by rw [h]; exact Nat.mul_div_cancel _ hs
    rw [Nat.mul_right_comm, Nat.add_mul_div_right _ _ hs] at e
    exact e
  have h2 : U / 2 ^ s < b := by rw [Nat.div_lt_iff_lt_mul hs]; exact hlt
  rw [← h1]
  constructor
  · rw [Nat.add_mul_div_left _ _ hb0, Nat.div_eq_of_lt h2]; omega
  · rw [Nat.add_mul_mod_self_left, Nat.mod_eq_of_lt h2]
theorem kn_first (U : List Nat) (k L N b s : Nat) (hl : k ≤ U.length) (hA : val U = L * 2 ^ s) (hL : L < B ^ (N + k)) (hb : B ^ N ≤ b) : val (U.drop k) < b * 2 ^ s := by
  have h1 := val_take_drop U k hl
  have hp : 0 < B ^ k := Nat.pow_pos (by decide)
  have h2 : B ^ k * val (U.drop k) < B ^ k * (b * 2 ^ s) := by
    have h3 : L * 2 ^ s < B ^ (N + k) * 2 ^ s := Nat.mul_lt_mul_of_pos_right hL (Nat.pow_pos (by decide))
    have h4 : B ^ (N + k) * 2 ^ s ≤ B ^ k * (b * 2 ^ s) := by
      rw [Nat.pow_add, Nat.mul_comm (B ^ N), Nat.mul_assoc]
      exact Nat.mul_le_mul_left _ (Nat.mul_le_mul_right _ hb)
    omega
  exact Nat.lt_of_mul_lt_mul_left h2
end Go.Proofs.YtcdndcbfmlnpjaaDoor.Na
