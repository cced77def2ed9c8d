/- Plain Lean: long division, one limb of the quotient at a time (Knuth). -/
import Derived.Test.YtcdndcbfmlnpjaaDoorNe
namespace Go.Proofs.YtcdndcbfmlnpjaaDoor.Na
set_option linter.all false
open Go

/-- A dividend of a step and the divisor, by their first limbs. -/
structure Kn (U V W top u2 U' v1 v2 V' : Nat) : Prop where
  hU : U = (top * B + u2) * W + U'
  hV : V = (v1 * B + v2) * W + V'
  lU : U' < W
  lV : V' < W
  lu : u2 < B
  lv : v2 < B
  pv : 0 < v1
  lt : U < V * B

section
variable {U V W top u2 U' v1 v2 V' : Nat} (h : Kn U V W top u2 U' v1 v2 V')
include h

theorem Kn.posW : 0 < W := by have := h.lU; omega
theorem Kn.ltU : U < top * (B * W) + B * W := by
  have h1 := Nat.mul_le_mul_right W (show u2 + 1 ≤ B from h.lu)
  have h2 := h.hU
  rw [Nat.add_mul, Nat.one_mul] at h1
  rw [Nat.add_mul, Nat.mul_assoc] at h2
  have := h.lU
  omega
theorem Kn.leV : v1 * (B * W) ≤ V := by
  have h2 := h.hV
  rw [Nat.add_mul, Nat.mul_assoc] at h2
  omega
theorem Kn.posV : 0 < V := by
  have h1 := h.leV
  have h2 : 0 < v1 * (B * W) := Nat.mul_pos h.pv (Nat.mul_pos (by decide) h.posW)
  omega
theorem Kn.leV1 : B * W ≤ V := by
  have h1 := h.leV
  have h2 := Nat.mul_le_mul_right (B * W) (show 1 ≤ v1 from h.pv)
  omega
theorem Kn.start : U / V ≤ top / v1 := by
  rw [Nat.le_div_iff_mul_le h.pv]
  rcases Nat.lt_or_ge top (U / V * v1) with h1 | h1
  · exfalso
    have h2 := Nat.mul_le_mul_right (B * W) (show top + 1 ≤ U / V * v1 from h1)
    rw [Nat.add_mul, Nat.one_mul, Nat.mul_assoc] at h2
    have h3 := Nat.mul_le_mul_left (U / V) h.leV
    have h4 := Nat.div_mul_le_self U V
    have h5 := h.ltU
    omega
  · exact h1
theorem Kn.ltB : U / V < B := by
  rw [Nat.div_lt_iff_lt_mul h.posV, Nat.mul_comm]; exact h.lt
/-- A guess that the test finds too great. -/
theorem Kn.down {d r : Nat} (hd : d * v1 + r = top) (hq : U / V ≤ d) (ht : B ≤ d ∨ r * B + u2 < d * v2) : 0 < d ∧ U / V ≤ d - 1 ∧ (d - 1) * v1 + (r + v1) = top := by
  have h1 : U / V < d := by
    rcases ht with ht | ht
    · have := h.ltB; omega
    · rw [Nat.div_lt_iff_lt_mul h.posV, Nat.mul_comm]
      have e : d * (v1 * B + v2) = d * v1 * B + d * v2 := by rw [Nat.mul_add, Nat.mul_assoc]
      have e2 : top * B = d * v1 * B + r * B := by rw [← hd, Nat.add_mul]
      have h2 : top * B + u2 + 1 ≤ d * (v1 * B + v2) := by omega
      have h3 := Nat.mul_le_mul_right W h2
      rw [Nat.add_mul, Nat.one_mul, Nat.mul_assoc] at h3
      have h4 : d * ((v1 * B + v2) * W) ≤ d * V := Nat.mul_le_mul_left d (by rw [h.hV]; omega)
      have := h.hU
      have := h.lU
      rw [Nat.mul_comm V d]
      omega
  have h0 := Nat.zero_le (U / V)
  refine ⟨by omega, by omega, ?_⟩
  obtain ⟨k, rfl⟩ : ∃ k, d = k + 1 := ⟨d - 1, by omega⟩
  rw [Nat.add_sub_cancel]
  rw [Nat.add_mul, Nat.one_mul] at hd
  omega
theorem Kn.close {d : Nat} (hd : d < B) (ht : d * (v1 * B + v2) ≤ top * B + u2) : d * V < U + V := by
  have h1 := Nat.mul_le_mul_right W ht
  rw [Nat.mul_assoc] at h1
  have h2 : d * V = d * ((v1 * B + v2) * W) + d * V' := by rw [h.hV, Nat.mul_add]
  have h3 : d * V' ≤ d * W := Nat.mul_le_mul_left d (Nat.le_of_lt h.lV)
  have h4 : d * W + W ≤ B * W := by
    have := Nat.mul_le_mul_right W (show d + 1 ≤ B from hd)
    rwa [Nat.add_mul, Nat.one_mul] at this
  have h5 := h.leV1
  have h6 := h.hU
  have := h.posW
  omega
/-- A guess that the test lets by. -/
theorem Kn.stop {d r : Nat} (hd : d * v1 + r = top) (hB : d < B) (ht : d * v2 ≤ r * B + u2) : d * V < U + V := by
  refine h.close hB ?_
  have e : d * (v1 * B + v2) = d * v1 * B + d * v2 := by rw [Nat.mul_add, Nat.mul_assoc]
  have e2 : top * B = d * v1 * B + r * B := by rw [← hd, Nat.add_mul]
  omega
theorem Kn.top_le : top ≤ v1 * B + v2 := by
  rcases Nat.lt_or_ge (v1 * B + v2) top with h1 | h1
  · exfalso
    have h2 := Nat.mul_le_mul_right (B * W) (show v1 * B + v2 + 1 ≤ top from h1)
    have h3 : top * (B * W) ≤ U := by
      have := h.hU
      rw [Nat.add_mul, Nat.mul_assoc] at this
      omega
    have h4 : V * B ≤ (v1 * B + v2 + 1) * (B * W) := by
      have : V ≤ (v1 * B + v2 + 1) * W := by
        rw [Nat.add_mul (v1 * B + v2), Nat.one_mul]
        have := h.hV; have := h.lV; omega
      have := Nat.mul_le_mul_right B this
      rw [Nat.mul_assoc, Nat.mul_comm W B] at this
      exact this
    have := h.lt
    omega
  · exact h1
/-- A guess whose rest is a limb too great for a test. -/
theorem Kn.broke {d r : Nat} (hd : d * v1 + r = top) (hr : B ≤ r) : d < B ∧ d * V < U + V := by
  have h1 := h.top_le
  have h2 := h.lv
  have hB : d < B := by
    rcases Nat.lt_or_ge d B with h3 | h3
    · exact h3
    · have := Nat.mul_le_mul_right v1 h3
      rw [Nat.mul_comm B v1] at this
      omega
  refine ⟨hB, h.close hB ?_⟩
  have e : d * (v1 * B + v2) = d * v1 * B + d * v2 := by rw [Nat.mul_add, Nat.mul_assoc]
  have e2 : top * B = d * v1 * B + r * B := by rw [← hd, Nat.add_mul]
  have e3 : d * v2 ≤ d * B := Nat.mul_le_mul_left d (Nat.le_of_lt h2)
  have e4 := Nat.mul_le_mul_right B (Nat.le_of_lt hB)
  have e5 := Nat.mul_le_mul_right B hr
  omega
end

/-- What is taken away, and given back: N the limbs' reach, br the borrow. -/
theorem kn_taken {U V d N o br : Nat} (hV : 0 < V) (hN : V ≤ N) (hq : U / V ≤ d) (hd : d * V < U + V) (ho : o < N) (h : U + N * br = o + d * V) (hb : br ≤ 1) :
    (br = 0 → o = U % V ∧ d = U / V) ∧ (br = 1 → ∀ o2 c, o2 < N → o2 + N * c = o + V → o2 = U % V ∧ 0 < d ∧ d - 1 = U / V) := by
  have hm := Nat.div_add_mod U V
  have hl := Nat.mod_lt U hV
  have hd2 : d ≤ U / V + 1 := by
    have : d - 1 < U / V + 1 ∨ d = 0 := by
      rcases Nat.eq_zero_or_pos d with h0 | h0
      · exact Or.inr h0
      · left
        obtain ⟨k, rfl⟩ : ∃ k, d = k + 1 := ⟨d - 1, by omega⟩
        rw [Nat.add_mul, Nat.one_mul] at hd
        have : k ≤ U / V := by rw [Nat.le_div_iff_mul_le hV]; omega
        omega
    have h0 := Nat.zero_le (U / V)
    omega
  constructor
  · rintro rfl
    rw [Nat.mul_zero, Nat.add_zero] at h
    have h1 : d ≤ U / V := by rw [Nat.le_div_iff_mul_le hV]; omega
    have h2 : d = U / V := by omega
    subst h2
    rw [Nat.mul_comm] at hm
    exact ⟨by omega, rfl⟩
  · rintro rfl o2 c ho2 hc
    rw [Nat.mul_one] at h
    have h1 : U / V < d := by
      rw [Nat.div_lt_iff_lt_mul hV, Nat.mul_comm]
      rw [Nat.mul_comm V d]; omega
    have h2 : d = U / V + 1 := by omega
    rw [h2, Nat.add_mul, Nat.one_mul, Nat.mul_comm (U / V) V] at h
    have h3 : N * c + o2 = N * 1 + U % V := by omega
    have h4 : c = 1 := by
      have hr : U % V < N := by omega
      have a1 : (N * c + o2) / N = c := by rw [Nat.mul_add_div (by omega), Nat.div_eq_of_lt ho2]; omega
      have a2 : (N * 1 + U % V) / N = 1 := by rw [Nat.mul_add_div (by omega), Nat.div_eq_of_lt hr]
      rw [← a1, h3, a2]
    subst h4
    exact ⟨by omega, by rw [h2]; exact Nat.succ_pos _, by rw [h2]; rfl⟩

/-- One limb of takes: p = d times a limb, c what is carried, b what is borrowed. -/
theorem takes_limb (x p c b : Nat) (hx : x < 4294967296) (hp : p ≤ 18446744065119617025) (hc : c < 4294967296) (hb : b ≤ 1) :
    ∃ o b2, o < 4294967296 ∧ b2 ≤ 1 ∧ p / 4294967296 + (p % 4294967296 + c) / 4294967296 < 4294967296 ∧ ((x : Int) - ((p % 4294967296 + c) % 4294967296 : Nat) - b) % 18446744073709551616 % 4294967296 = (o : Int) ∧ ((x : Int) - ((p % 4294967296 + c) % 4294967296 : Nat) - b) % 18446744073709551616 / 9223372036854775808 = (b2 : Int) ∧
    x + 4294967296 * (p / 4294967296 + (p % 4294967296 + c) / 4294967296 + b2) = o + (p + c + b) := by
  rcases Nat.lt_or_ge x ((p % 4294967296 + c) % 4294967296 + b) with h | h
  · exact ⟨x + 4294967296 - (p % 4294967296 + c) % 4294967296 - b, 1, by omega, by omega, by omega, by omega, by omega, by omega⟩
  · exact ⟨x - (p % 4294967296 + c) % 4294967296 - b, 0, by omega, by omega, by omega, by omega, by omega, by omega⟩
/-- .. in the numbers: off the list's part from off on, o as it stands, q the divisor, d the factor. -/
theorem takes_step (O o q : List Nat) (off d k x y c b c2 b2 v : Nat) (hk : off + k < o.length) (hOk : (O.drop off).take (k + 1) = (O.drop off).take k ++ [x])
    (inv : val ((O.drop off).take k) + B ^ k * (c + b) = val ((o.drop off).take k) + d * val (q.take k)) (hq : val (q.take (k + 1)) = val (q.take k) + B ^ k * y)
    (hl : (O.drop off).length ≥ k + 1) (he : x + B * (c2 + b2) = v + (d * y + c + b)) :
    val ((O.drop off).take (k + 1)) + B ^ (k + 1) * (c2 + b2) = val (((o.set (off + k) v).drop off).take (k + 1)) + d * val (q.take (k + 1)) := by
  rw [drop_set, val_set_take _ k _ (by rw [List.length_drop]; omega), hq, hOk, val_app, Nat.pow_succ, List.length_take, Nat.min_eq_left (by omega)]
  have h1 := congrArg (B ^ k * ·) he
  simp only [Nat.mul_add] at h1
  simp only [val, Nat.mul_zero, Nat.add_zero]
  have h2 : d * (B ^ k * y) = B ^ k * (d * y) := by rw [Nat.mul_left_comm]
  have h3 : B ^ k * B * (c2 + b2) = B ^ k * (B * c2) + B ^ k * (B * b2) := by rw [Nat.mul_assoc, Nat.mul_add, Nat.mul_add]
  rw [Nat.mul_add d, h2, h3]
  rw [Nat.mul_add] at inv
  omega
end Go.Proofs.YtcdndcbfmlnpjaaDoor.Na
