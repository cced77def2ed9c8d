/- Plain Lean: texts of digits and a power of ten are read as what they say: ints, middles, a little more, a little less; the powers of 128 bits. -/
import Derived.Test.YtjnkbifafbjckaaGreatDoorZ8
import Derived.Test.YtjnkbifafbjckaaGreatDoorZ7
import Derived.Test.YtjnkbifafbjckaaGreatDoorZ1
import Derived.Test.YtjnkbifafbjckaaGreatDoorZ5
import Derived.Test.YtjnkbifafbjckaaGreatDoorZ6
import Derived.Laws.Bits64b
import Derived.Test.YtjnkbifafbjckaaGreatDoorZ2
namespace Go.Proofs.YtjnkbifafbjckaaGreatDoor.Fl
set_option linter.all false
open Go

/-- The text of digits and of a power of ten. -/
theorem parse_dec (ds : Dc.Bs) (c : UInt8) (u : Nat) (hd : Dc.allDig ds = true) (hne : ds ≠ []) (hc : c = 43 ∨ c = 45) (hu : u ≤ 1000000) : Dc.parse (ds ++ (101 :: c :: Lib.decDigits u)) = Dc.mk false ds (if c = 45 then -(u : Int) else (u : Int)) := by
  have h := Dc.parse_form false ds (101 :: c :: Lib.decDigits u) hd hne (fun d h => by
    simp at h; subst h; decide)
  rw [if_neg (by decide), List.nil_append] at h
  rw [h, Dc.tail_e false ds 0 c u hc hu]
  congr 1
  simp
theorem parse_plain (ds : Dc.Bs) (hd : Dc.allDig ds = true) (hne : ds ≠ []) : Dc.parse ds = Dc.mk false ds 0 := by
  have h := Dc.parse_form false ds [] hd hne (fun d h => by simp at h)
  rw [if_neg (by decide), List.nil_append, List.append_nil] at h
  rw [h]
  unfold Dc.tail
  simp
/-- What digits times a power of ten are read as. -/
theorem bits_mk {ds : Dc.Bs} {y : Int} {b : Nat} (hd : Dc.allDig ds = true) (hl : ds.length ≤ 1000) (hy : -50000 ≤ y ∧ y ≤ 50000) (h : Near (Dc.nv ds * 10 ^ (y + Dc.lift).toNat * 2 ^ low) (10 ^ Dc.lift) b) :
    (Dc.mk false ds y).e = 0 ∧ (Dc.mk false ds y).n = false ∧ Dc.right (Dc.mk false ds y).l (Dc.mk false ds y).x = true ∧ bits (Dc.mk false ds y).l (Dc.mk false ds y).x = b := by
  obtain ⟨k1, k2⟩ := mk_fine false ds y hd hl hy
  obtain ⟨m1, m2, m3⟩ := Dc.mk_vv false ds y hd (by omega) k1
  refine ⟨k1, m1, m2, (bits_eq (Dc.right_exp m2).1 ?_).symm⟩
  rw [m3]; exact h
/-- Another scale. -/
theorem near_cross {X D X' D' b : Nat} (hD : 0 < D) (hD' : 0 < D') (he : X * D' = X' * D) (h : Near X D b) : Near X' D' b := by
  obtain ⟨h1, h2, h3⟩ := h
  have key : ∀ K : Nat, (K * D < 2 * X ↔ K * D' < 2 * X') ∧ (K * D = 2 * X ↔ K * D' = 2 * X') ∧ (2 * X < K * D ↔ 2 * X' < K * D') := fun K => by
    have e1 : K * D * D' = K * D' * D := Nat.mul_right_comm _ _ _
    have e2 : 2 * X * D' = 2 * X' * D := by rw [Nat.mul_assoc, he, Nat.mul_assoc]
    refine ⟨?_, ?_, ?_⟩
    · rw [← Nat.mul_lt_mul_right hD', e1, e2, Nat.mul_lt_mul_right hD]
    · constructor
      · intro h; rw [h] at e1; exact Nat.eq_of_mul_eq_mul_right hD (by rw [← e1, e2])
      · intro h; rw [h] at e1; exact Nat.eq_of_mul_eq_mul_right hD' (by rw [e1, ← e2])
    · rw [← Nat.mul_lt_mul_right hD', e1, e2, Nat.mul_lt_mul_right hD]
  refine ⟨h1, ?_, ?_⟩
  · rcases h2 with h | h | h
    · exact Or.inl h
    · exact Or.inr (Or.inl ((key _).1.1 h))
    · exact Or.inr (Or.inr ⟨(key _).2.1.1 h.1, h.2⟩)
  · rcases h3 with h | h | h
    · exact Or.inl h
    · exact Or.inr (Or.inl ((key _).2.2.1 h))
    · exact Or.inr (Or.inr ⟨((key _).2.1.1 h.1.symm).symm, h.2⟩)
theorem near_whole {N b : Nat} (h : Near (N * 2 ^ low) 1 b) : Near (N * 10 ^ ((0 : Int) + Dc.lift).toNat * 2 ^ low) (10 ^ Dc.lift) b := by
  refine near_cross (by decide) (Nat.pow_pos (by decide)) ?_ h
  rw [show ((0 : Int) + (Dc.lift : Int)).toNat = Dc.lift by omega, Nat.mul_one, Nat.mul_right_comm]
/-- An int times a power of two, in digits. -/
theorem int_up {m k : Nat} (hm : m < 2 ^ 54) (hk : k ≤ n971) : (Dc.mk false (Lib.decDigits (m * 2 ^ k)) 0).e = 0 ∧ (Dc.mk false (Lib.decDigits (m * 2 ^ k)) 0).n = false ∧ Dc.right (Dc.mk false (Lib.decDigits (m * 2 ^ k)) 0).l (Dc.mk false (Lib.decDigits (m * 2 ^ k)) 0).x = true ∧
    bits (Dc.mk false (Lib.decDigits (m * 2 ^ k)) 0).l (Dc.mk false (Lib.decDigits (m * 2 ^ k)) 0).x = rd m k false := by
  refine bits_mk (dig_dec _) (Nat.le_trans (up_len hm hk) (by decide)) (by omega) ?_
  rw [nv_dec]
  refine near_whole ?_
  have := rd_self m (k : Int) k 0 (by omega)
  rw [Nat.pow_zero, Nat.pow_add, ← Nat.mul_assoc] at this
  exact this
/-- An int divided by a power of two, in digits and a power of ten. -/
theorem int_down {m j : Nat} (hm : m < 2 ^ 54) (hj : j ≤ low + 1) : (Dc.mk false (Lib.decDigits (m * 5 ^ j)) (-(j : Int))).e = 0 ∧ (Dc.mk false (Lib.decDigits (m * 5 ^ j)) (-(j : Int))).n = false ∧ Dc.right (Dc.mk false (Lib.decDigits (m * 5 ^ j)) (-(j : Int))).l (Dc.mk false (Lib.decDigits (m * 5 ^ j)) (-(j : Int))).x = true ∧
    bits (Dc.mk false (Lib.decDigits (m * 5 ^ j)) (-(j : Int))).l (Dc.mk false (Lib.decDigits (m * 5 ^ j)) (-(j : Int))).x = rd m (-(j : Int)) false := by
  have hlow : low = 1074 := rfl
  have hlift : Dc.lift = 200000 := rfl
  refine bits_mk (dig_dec _) (Nat.le_trans (mid_len hm hj rfl) (by decide)) (by omega) ?_
  rw [nv_dec]
  have h := rd_self m (-(j : Int)) 0 j (by omega)
  rw [Nat.zero_add] at h
  refine near_cross (Nat.pow_pos (by decide)) (Nat.pow_pos (by decide)) ?_ h
  obtain ⟨c, hc⟩ : ∃ c, Dc.lift = j + c := ⟨Dc.lift - j, by omega⟩
  rw [show (-(j : Int) + (Dc.lift : Int)).toNat = c by omega, hc, Nat.pow_add]
  have h10 : (10 : Nat) ^ j = 2 ^ j * 5 ^ j := by rw [← Nat.mul_pow]
  rw [h10]
  simp only [Nat.mul_assoc, Nat.mul_comm, Nat.mul_left_comm]
/-- About the middle between a number and the next one. -/
theorem near_mid {x X D : Nat} (hx : x < 9218868437227405311) (hD : 0 < D) : (2 * X = (V x + V (x + 1)) * D → Near X D (x + x % 2)) ∧
    ((V x + V (x + 1)) * D < 2 * X → 2 * X < (V (x + 1) + V (x + 2)) * D → Near X D (x + 1)) ∧
    (2 * X < (V x + V (x + 1)) * D → (x = 0 ∨ (V (x - 1) + V x) * D < 2 * X) → Near X D x) := by
  have a1 := V_lt (show x < x + 1 by omega)
  have a2 := V_lt (show x + 1 < x + 1 + 1 by omega)
  refine ⟨fun h => ?_, fun h1 h2 => ?_, fun h1 h2 => ?_⟩
  · by_cases he : x % 2 = 0
    · rw [he, Nat.add_zero]
      refine ⟨by omega, ?_, Or.inr (Or.inr ⟨h, he⟩)⟩
      by_cases h0 : x = 0
      · exact Or.inl h0
      · right; left
        rw [h]
        have a0 := V_lt (show x - 1 < x by omega)
        exact Nat.mul_lt_mul_of_pos_right (by omega) hD
    · rw [show x % 2 = 1 by omega]
      refine ⟨by omega, Or.inr (Or.inr ⟨by rw [Nat.add_sub_cancel]; exact h.symm, by omega⟩), Or.inr (Or.inl ?_)⟩
      rw [h]
      exact Nat.mul_lt_mul_of_pos_right (by omega) hD
  · exact ⟨by omega, Or.inr (Or.inl (by rw [Nat.add_sub_cancel]; exact h1)), Or.inr (Or.inl h2)⟩
  · refine ⟨by omega, ?_, Or.inr (Or.inl h1)⟩
    rcases h2 with h | h
    · exact Or.inl h
    · exact Or.inr (Or.inl h)

/-- The powers of ten: their range. -/
theorem ten_no_two (j i : Nat) (hj : 0 < j) : 10 ^ j ≠ 2 ^ i := by
  intro h
  have h5 : ∀ i : Nat, 2 ^ i % 5 ≠ 0 := by
    intro i
    induction i with
    | zero => decide
    | succ i ih => rw [Nat.pow_succ]; omega
  apply h5 i
  rw [← h]
  obtain ⟨k, rfl⟩ : ∃ k, j = k + 1 := ⟨j - 1, by omega⟩
  rw [Nat.pow_succ]; omega
theorem pw_range (x : Int) : 170141183460469231731687303715884105728 ≤ pwP x ∧ pwP x < 340282366920938463463374607431768211456 := by
  have e7 : (170141183460469231731687303715884105728 : Nat) = 2 ^ 127 := by decide
  have e8 : (340282366920938463463374607431768211456 : Nat) = 2 ^ 128 := by decide
  rw [e7, e8]
  by_cases h0 : x < 0
  · obtain ⟨j, hj⟩ : ∃ j : Nat, j = (-x).toNat := ⟨_, rfl⟩
    have hB0 : 10 ^ j ≠ 0 := Nat.ne_of_gt (Nat.pow_pos (by decide))
    obtain ⟨a1, a2, a3⟩ := bitLen_ge hB0
    have hne := ten_no_two j (Na.bitLen (10 ^ j) - 1) (by omega)
    rw [pwP, if_pos h0, ← hj]
    obtain ⟨B, hB⟩ : ∃ B, B = 10 ^ j := ⟨_, rfl⟩
    rw [← hB] at a1 a2 a3 hB0 hne ⊢
    obtain ⟨L, hL⟩ : ∃ L, Na.bitLen B = L + 1 := ⟨Na.bitLen B - 1, by omega⟩
    rw [hL, Nat.add_sub_cancel] at a1 hne
    rw [hL] at a2 ⊢
    have hBp : 0 < B := by omega
    constructor
    · rw [Nat.le_div_iff_mul_le hBp, Nat.pow_add, Nat.mul_comm (2 ^ (L + 1))]
      exact Nat.mul_le_mul_left _ (Nat.le_of_lt a2)
    · rw [Nat.div_lt_iff_lt_mul hBp, show L + 1 + 127 = 128 + L by omega, Nat.pow_add]
      exact Nat.mul_lt_mul_of_pos_left (by omega) (Nat.pow_pos (by decide))
  · obtain ⟨A, hA⟩ : ∃ A, A = 10 ^ x.toNat := ⟨_, rfl⟩
    have hA0 : A ≠ 0 := by rw [hA]; exact Nat.ne_of_gt (Nat.pow_pos (by decide))
    obtain ⟨a1, a2, a3⟩ := bitLen_ge hA0
    have hE : pwE x = (Na.bitLen A : Int) - 128 := by rw [pwE, if_neg h0, ← hA]
    rw [pwP, if_neg h0, hE, ← hA]
    obtain ⟨L, hL⟩ : ∃ L, Na.bitLen A = L + 1 := ⟨Na.bitLen A - 1, by omega⟩
    rw [hL, Nat.add_sub_cancel] at a1
    rw [hL] at a2 ⊢
    by_cases h1 : ((L + 1 : Nat) : Int) - 128 ≤ 0
    · rw [if_pos h1]
      obtain ⟨k, hk⟩ : ∃ k : Nat, L + k = 127 := ⟨127 - L, by omega⟩
      rw [show (-(((L + 1 : Nat) : Int) - 128)).toNat = k by omega]
      have p : 0 < 2 ^ k := Nat.pow_pos (by decide)
      constructor
      · rw [← hk, Nat.pow_add]; exact Nat.mul_le_mul_right _ a1
      · rw [show 128 = L + 1 + k by omega, Nat.pow_add]; exact Nat.mul_lt_mul_of_pos_right a2 p
    · rw [if_neg h1]
      obtain ⟨k, hk⟩ : ∃ k : Nat, L = 127 + k := ⟨L - 127, by omega⟩
      rw [show (((L + 1 : Nat) : Int) - 128).toNat = k by omega]
      have p : 0 < 2 ^ k := Nat.pow_pos (by decide)
      constructor
      · rw [Nat.le_div_iff_mul_le p, ← Nat.pow_add, ← hk]; exact a1
      · rw [Nat.div_lt_iff_lt_mul p, ← Nat.pow_add, show 128 + k = L + 1 by omega]; exact a2
theorem five_odd (n : Nat) : 5 ^ n % 2 = 1 := by
  induction n with
  | zero => decide
  | succ n ih => rw [Nat.pow_succ]; omega
/-- Which powers are just that. -/
theorem pw_all (x : Int) : pwA x = decide (0 ≤ x ∧ x ≤ 55) := by
  by_cases h0 : x < 0
  · rw [pwA, if_pos h0, decide_eq_false (by omega)]
  · obtain ⟨n, rfl⟩ : ∃ n : Nat, x = n := ⟨x.toNat, by omega⟩
    have hA0 : 10 ^ n ≠ 0 := Nat.ne_of_gt (Nat.pow_pos (by decide))
    obtain ⟨a1, a2, a3⟩ := bitLen_ge hA0
    have hE : pwE (n : Int) = (Na.bitLen (10 ^ n) : Int) - 128 := by rw [pwE, if_neg h0, Int.toNat_natCast]
    rw [pwA, if_neg h0, hE, Int.toNat_natCast]
    obtain ⟨A, hA⟩ : ∃ A, A = 10 ^ n := ⟨_, rfl⟩
    have h25 : A = 5 ^ n * 2 ^ n := by rw [hA, ← Nat.mul_pow]
    rw [← hA] at a1 a2 a3 ⊢
    obtain ⟨L, hL⟩ : ∃ L, Na.bitLen A = L + 1 := ⟨Na.bitLen A - 1, by omega⟩
    rw [hL, Nat.add_sub_cancel] at a1
    rw [hL] at a2 ⊢
    have e55 : (5 : Nat) ^ 55 < 2 ^ 128 := by decide
    have e56 : (2 : Nat) ^ 128 ≤ 5 ^ 56 := by decide
    have hiff : n ≤ 55 ↔ L + 1 ≤ 128 + n := by
      constructor
      · intro h
        have h5 : 5 ^ n ≤ 5 ^ 55 := Nat.pow_le_pow_right (by decide) h
        have h3 : A < 2 ^ (128 + n) := by
          rw [h25, Nat.pow_add]; exact Nat.mul_lt_mul_of_pos_right (by omega) (Nat.pow_pos (by decide))
        rcases Nat.lt_or_ge L (128 + n) with h4 | h4
        · omega
        · have := Nat.pow_le_pow_right (show 0 < 2 by decide) h4; omega
      · intro h
        rcases Nat.lt_or_ge n 56 with h4 | h4
        · omega
        · exfalso
          have h5 : 5 ^ 56 ≤ 5 ^ n := Nat.pow_le_pow_right (by decide) h4
          have h3 : 2 ^ (128 + n) ≤ A := by
            rw [h25, Nat.pow_add]; exact Nat.mul_le_mul_right _ (by omega)
          have := Nat.pow_le_pow_right (show 0 < 2 by decide) h; omega
    by_cases h1 : ((L + 1 : Nat) : Int) - 128 ≤ 0
    · rw [if_pos h1, decide_eq_true (by omega)]
    · rw [if_neg h1]
      obtain ⟨k, hk⟩ : ∃ k : Nat, L + 1 = 128 + k := ⟨L + 1 - 128, by omega⟩
      rw [show (((L + 1 : Nat) : Int) - 128).toNat = k by omega]
      by_cases hkn : k ≤ n
      · obtain ⟨d, hd⟩ : ∃ d, n = k + d := ⟨n - k, by omega⟩
        have hz : A % 2 ^ k = 0 := by rw [h25, hd, Nat.pow_add 2, Nat.mul_left_comm, Nat.mul_mod_right]
        rw [hz, decide_eq_false (by simp), decide_eq_true (by omega)]; rfl
      · have hz : A % 2 ^ k ≠ 0 := by
          obtain ⟨d, hd⟩ : ∃ d, k = n + 1 + d := ⟨k - n - 1, by omega⟩
          intro h
          have h2 : 2 ^ (n + 1) ∣ A := Nat.dvd_trans ⟨2 ^ d, by rw [hd, Nat.pow_add]⟩ (Nat.dvd_of_mod_eq_zero h)
          obtain ⟨c, hc⟩ := h2
          rw [h25, Nat.pow_succ, Nat.mul_comm (5 ^ n), Nat.mul_assoc] at hc
          have := Nat.eq_of_mul_eq_mul_left (Nat.pow_pos (by decide)) hc
          have h5 := five_odd n
          omega
        rw [decide_eq_true hz, decide_eq_false (by omega)]; rfl
end Go.Proofs.YtjnkbifafbjckaaGreatDoor.Fl

/- Plain Lean: lists of limbs of a middling size: powers of ten, shifts, quotients. -/
namespace Go.Proofs.YtjnkbifafbjckaaGreatDoor.Fl
set_option linter.all false
open Go

def n256 : Nat := 256
/-- Below this a list is not too big. -/
def Mid (n : Nat) : Prop := (Na.limbs n).length ≤ 256
theorem mid_bits {n k : Nat} (h : n < 2 ^ (32 * k)) (hk : k ≤ 256) : Mid n := by
  rw [Nat.pow_mul, show (2 : Nat) ^ 32 = Na.B from rfl] at h
  exact Nat.le_trans (Na.limbs_len_le _ _ h) hk
theorem mid_pow {n k : Nat} (h : n < 2 ^ k) (hk : k ≤ 8192) : Mid n :=
  mid_bits (k := n256) (Nat.lt_of_lt_of_le h (Nat.pow_le_pow_right (by decide) (by unfold n256; omega))) (by unfold n256; omega)
theorem mid_bl {n : Nat} (h : Na.bitLen n ≤ 8192) : Mid n := by
  by_cases h0 : n = 0
  · subst h0; unfold Mid; rw [Na.limbs_zero]; simp
  · exact mid_pow (bitLen_ge h0).2.1 h
theorem mid_le {n m : Nat} (h : n ≤ m) (hm : Mid m) : Mid n := by
  unfold Mid at hm ⊢
  exact (Na.limbs_len_iff _ _).2 (Nat.lt_of_le_of_lt h ((Na.limbs_len_iff _ _).1 hm))
theorem mid_big {n : Nat} (h : Mid n) : Na.big (Na.limbs n) = false := by
  rw [Na.big, Na.rt_limbs]; exact decide_eq_false (by unfold Mid at h; omega)
theorem ten_two (j : Nat) : 10 ^ j ≤ 2 ^ (4 * j) := by
  rw [Nat.pow_mul]; exact Nat.pow_le_pow_left (by decide) _
theorem bitLen_lt {n k : Nat} (h : n < 2 ^ k) : Na.bitLen n ≤ k := Na.bitLen_le' h
theorem quot_small {N s X k : Nat} (hN : N < 10 ^ s) (h : s ≤ X + n310) : N * 2 ^ k / 10 ^ X < 2 ^ (4 * n310 + k) := by
  rw [Nat.div_lt_iff_lt_mul (Nat.pow_pos (by decide))]
  have h1 : N * 2 ^ k < 10 ^ (X + n310) * 2 ^ k := Nat.mul_lt_mul_of_pos_right (Nat.lt_of_lt_of_le hN (Nat.pow_le_pow_right (by decide) h)) (Nat.pow_pos (by decide))
  have h2 : 10 ^ n310 * (2 ^ k * 10 ^ X) ≤ 2 ^ (4 * n310) * (2 ^ k * 10 ^ X) := Nat.mul_le_mul_right _ (ten_two n310)
  rw [Nat.pow_add, Nat.mul_comm (10 ^ X), Nat.mul_assoc, Nat.mul_comm (10 ^ X)] at h1
  rw [Nat.pow_add, Nat.mul_assoc]
  exact Nat.lt_of_lt_of_le h1 h2
theorem ten_len (j : Nat) : Na.bitLen (10 ^ j) ≤ 4 * j + 1 :=
  bitLen_lt (Nat.lt_of_le_of_lt (ten_two j) (Nat.pow_lt_pow_right (by decide) (by omega)))
theorem ten_mid {j : Nat} (hj : j ≤ 2000) : Mid (10 ^ j) := mid_bl (by have := ten_len j; omega)
theorem pow_ten {j : Nat} (hj : j ≤ 2000) : Na.pow 10 (j : Int) = (Na.limbs (10 ^ j), 0) := by
  have h := ten_mid hj
  rw [Na.pow, if_neg (by omega), if_neg (by omega), Int.toNat_natCast, show (10 : Int).toNat = 10 from rfl, Na.fits, if_neg (by unfold Mid at h; omega)]
theorem shl_mid {n k : Nat} (h0 : n ≠ 0) (h : Na.bitLen n + k ≤ 8192) : Na.shl (Na.limbs n) (k : Int) = (Na.limbs (n * 2 ^ k), 0) := by
  rw [Na.shl, if_neg (by omega), mid_big (mid_bl (by omega)), if_neg (by simp), Na.val_limbs, if_neg h0, if_neg (by omega), Int.toNat_natCast]
theorem shr_mid {n k : Nat} (h : Mid n) : Na.shr (Na.limbs n) (k : Int) = (Na.limbs (n / 2 ^ k), decide (n % 2 ^ k ≠ 0), 0) := by
  rw [Na.shr, if_neg (by omega), mid_big h, if_neg (by simp), Na.val_limbs, Int.toNat_natCast]
theorem div_mid {n m : Nat} (hn : Mid n) (hm : Mid m) (h0 : m ≠ 0) : Na.divMod (Na.limbs n) (Na.limbs m) = (Na.limbs (n / m), Na.limbs (n % m), 0) := by
  rw [Na.divMod, mid_big hn, mid_big hm, if_neg (by simp), Na.val_limbs, Na.val_limbs, if_neg h0]
theorem mul_mid {n m : Nat} (hn : Mid n) (hm : Mid m) (h : Mid (n * m)) : Na.mul (Na.limbs n) (Na.limbs m) = (Na.limbs (n * m), 0) := by
  rw [Na.mul, mid_big hn, mid_big hm, if_neg (by simp), Na.val_limbs, Na.val_limbs, Na.fits, if_neg (by unfold Mid at h; omega)]
theorem bitLen_mul_pow {n k : Nat} (h0 : n ≠ 0) : n * 2 ^ k < 2 ^ (Na.bitLen n + k) := by
  rw [Nat.pow_add]; exact Nat.mul_lt_mul_of_pos_right (bitLen_ge h0).2.1 (Nat.pow_pos (by decide))
theorem ten_ne (j : Nat) : 10 ^ j ≠ 0 := Nat.ne_of_gt (Nat.pow_pos (by decide))
theorem pw_neg {j : Nat} (hj : 0 < j) : pwE (-(j : Int)) = -((Na.bitLen (10 ^ j) : Int) + 127) ∧ pwP (-(j : Int)) = 1 * 2 ^ (Na.bitLen (10 ^ j) + 127) / 10 ^ j ∧ pwA (-(j : Int)) = false := by
  have e : (-(-(j : Int))).toNat = j := by omega
  refine ⟨?_, ?_, ?_⟩
  · rw [pwE, if_pos (by omega), e]
  · rw [pwP, if_pos (by omega), e, Nat.one_mul]
  · rw [pwA, if_pos (by omega)]
theorem pw_pos {j : Nat} {e : Int} (he : e = (Na.bitLen (10 ^ j) : Int) - 128) : pwE (j : Int) = e ∧ (e ≤ 0 → pwP (j : Int) = 10 ^ j * 2 ^ (-e).toNat ∧ pwA (j : Int) = true) ∧
    (0 < e → pwP (j : Int) = 10 ^ j / 2 ^ e.toNat ∧ pwA (j : Int) = !decide (10 ^ j % 2 ^ e.toNat ≠ 0)) := by
  have e1 : pwE (j : Int) = e := by rw [pwE, if_neg (by omega), Int.toNat_natCast, he]
  refine ⟨e1, fun h => ⟨?_, ?_⟩, fun h => ⟨?_, ?_⟩⟩
  · rw [pwP, if_neg (by omega), e1, if_pos h, Int.toNat_natCast]
  · rw [pwA, if_neg (by omega), e1, if_pos h]
  · rw [pwP, if_neg (by omega), e1, if_neg (by omega), Int.toNat_natCast]
  · rw [pwA, if_neg (by omega), e1, if_neg (by omega), Int.toNat_natCast]
end Go.Proofs.YtjnkbifafbjckaaGreatDoor.Fl

/- binary64 in bits: kind and parts, in the program and in the reference. -/
namespace Go.Proofs.YtjnkbifafbjckaaGreatDoor
set_option linter.all false
open Go.RowKit

theorem Fl.and_mask (x m k : Nat) (hx : x < 18446744073709551616) (hm : m = 2 ^ k - 1) (hk : k ≤ 63) : Go.bits BinOp.and IntKind.u64 (x : Int) (m : Int) = ((x % 2 ^ k : Nat) : Int) := by
  have h1 : 2 ^ k ≤ 2 ^ 63 := Nat.pow_le_pow_right (by decide) hk
  rw [bits_and_u64_nat x m hx (by omega), hm, Nat.and_two_pow_sub_one_eq_mod]
theorem Fl.and_expo (x : Nat) (hx : x < 18446744073709551616) : Go.bits BinOp.and IntKind.u64 ((x / 4503599627370496 : Nat) : Int) 2047 = (Fl.expo x : Int) := Fl.and_mask _ 2047 11 (by omega) (by decide) (by decide)
theorem Fl.and_frac (x : Nat) (hx : x < 18446744073709551616) : Go.bits BinOp.and IntKind.u64 (x : Int) 4503599627370495 = (Fl.frac x : Int) := Fl.and_mask _ 4503599627370495 52 hx (by decide) (by decide)
theorem Fl.or_one (f : Nat) (h : f < 4503599627370496) : Go.bits BinOp.or IntKind.u64 4503599627370496 (f : Int) = ((4503599627370496 + f : Nat) : Int) := by
  rw [show (4503599627370496 : Int) = ((4503599627370496 : Nat) : Int) by rfl, bits_or_u64_nat _ _ (by decide) (by omega)]
  congr 1
  have := Nat.two_pow_add_eq_or_of_lt (show f < 2 ^ 52 by omega) 1
  rw [Nat.mul_one] at this; exact this.symm

/-- The five kinds, by the two parts. -/
theorem Fl.kinds (x : Nat) : (Fl.expo x = 2047 ∧ Fl.frac x = 0 ∧ Fl.kind x = 3) ∨ (Fl.expo x = 2047 ∧ Fl.frac x ≠ 0 ∧ Fl.kind x = 4) ∨ (Fl.expo x ≠ 2047 ∧ 0 < Fl.expo x ∧ Fl.kind x = 2) ∨ (Fl.expo x = 0 ∧ 0 < Fl.frac x ∧ Fl.kind x = 1) ∨ (Fl.expo x = 0 ∧ Fl.frac x = 0 ∧ Fl.kind x = 0) := by
  by_cases h1 : Fl.expo x = 2047
  · by_cases h2 : Fl.frac x = 0
    · exact Or.inl ⟨h1, h2, by rw [Fl.kind, if_pos h1, if_pos h2]⟩
    · exact Or.inr (Or.inl ⟨h1, h2, by rw [Fl.kind, if_pos h1, if_neg h2]⟩)
  · by_cases h2 : 0 < Fl.expo x
    · exact Or.inr (Or.inr (Or.inl ⟨h1, h2, by rw [Fl.kind, if_neg h1, if_pos h2]⟩))
    · by_cases h3 : 0 < Fl.frac x
      · exact Or.inr (Or.inr (Or.inr (Or.inl ⟨by omega, h3, by rw [Fl.kind, if_neg h1, if_neg h2, if_pos h3]⟩)))
      · exact Or.inr (Or.inr (Or.inr (Or.inr ⟨by omega, by omega, by rw [Fl.kind, if_neg h1, if_neg h2, if_neg h3]⟩)))

set_option maxHeartbeats 1000000 in
theorem fl_kind_any (x : Nat) (hx : x < 18446744073709551616) (w : World) : Calls Tryz.prog 69 #[.int .u64 x] w (Ret0 (.int .i64 (Fl.kind x : Nat)) w) := by
  have hand1 := Fl.and_expo x hx
  have hand2 := Fl.and_frac x hx
  have hk := Fl.kinds x
  have he2 := Fl.expo_lt x
  have hf2 := Fl.frac_lt x
  obtain ⟨q, hq⟩ : ∃ q, q = x / 4503599627370496 := ⟨_, rfl⟩
  have hqi : (x : Int) / 4503599627370496 = (q : Int) := by omega
  rw [← hq] at hand1
  obtain ⟨e, he⟩ : ∃ e, e = Fl.expo x := ⟨_, rfl⟩
  obtain ⟨f, hf⟩ : ∃ e, e = Fl.frac x := ⟨_, rfl⟩
  obtain ⟨k, hkk⟩ : ∃ e, e = Fl.kind x := ⟨_, rfl⟩
  rw [← he, ← hf, ← hkk] at hk
  rw [← he] at hand1 he2
  rw [← hf] at hand2 hf2
  rw [← hkk]
  clear he hf hkk hq
  rcases hk with ⟨rfl, rfl, rfl⟩ | ⟨rfl, h2, rfl⟩ | ⟨h1, h2, rfl⟩ | ⟨rfl, h2, rfl⟩ | ⟨rfl, rfl, rfl⟩
  · go_enter Tryz.func69, Tryz.ntmps69
    go_wp2
    go_ret
    exact Ret0.of rfl
  · have b2 : ((f : Int) == 0) = false := by simpa using h2
    go_enter Tryz.func69, Tryz.ntmps69
    go_wp2
    go_ret
    exact Ret0.of rfl
  · have b1 : ((e : Int) == 2047) = false := by simp; omega
    go_enter Tryz.func69, Tryz.ntmps69
    go_wp2
    go_ret
    exact Ret0.of rfl
  · go_enter Tryz.func69, Tryz.ntmps69
    go_wp2
    go_ret
    exact Ret0.of rfl
  · go_enter Tryz.func69, Tryz.ntmps69
    go_wp2
    go_ret
    exact Ret0.of rfl

set_option maxHeartbeats 1000000 in
theorem r3_kind_any (x : Nat) (hx : x < 18446744073709551616) (w : World) : Calls Tryz.prog 19 #[.int .u64 x] w (Ret0 (.int .i64 (Fl.kind x : Nat)) w) := by
  have hk := Fl.kinds x
  have he2 := Fl.expo_lt x
  have hf2 := Fl.frac_lt x
  obtain ⟨e, he⟩ : ∃ e, e = Fl.expo x := ⟨_, rfl⟩
  obtain ⟨f, hf⟩ : ∃ e, e = Fl.frac x := ⟨_, rfl⟩
  obtain ⟨k, hkk⟩ : ∃ e, e = Fl.kind x := ⟨_, rfl⟩
  have hei : (x : Int) / 4503599627370496 % 2048 = (e : Int) := by rw [he, Fl.expo]; omega
  have hfi : (x : Int) % 4503599627370496 = (f : Int) := by rw [hf, Fl.frac]; omega
  rw [← he, ← hf, ← hkk] at hk
  rw [← he] at he2
  rw [← hf] at hf2
  rw [← hkk]
  clear he hf hkk
  rcases hk with ⟨rfl, rfl, rfl⟩ | ⟨rfl, h2, rfl⟩ | ⟨h1, h2, rfl⟩ | ⟨rfl, h2, rfl⟩ | ⟨rfl, rfl, rfl⟩
  · go_enter Tryz.func19, Tryz.ntmps19
    go_wp2
    go_ret
    exact Ret0.of rfl
  · have b2 : ((f : Int) == 0) = false := by simpa using h2
    go_enter Tryz.func19, Tryz.ntmps19
    go_wp2
    go_ret
    exact Ret0.of rfl
  · have b1 : ((e : Int) == 2047) = false := by simp; omega
    have b2 : ((e : Int) == 0) = false := by simp; omega
    go_enter Tryz.func19, Tryz.ntmps19
    go_wp2
    go_ret
    exact Ret0.of rfl
  · have b2 : ((f : Int) == 0) = false := by simp; omega
    go_enter Tryz.func19, Tryz.ntmps19
    go_wp2
    go_ret
    exact Ret0.of rfl
  · go_enter Tryz.func19, Tryz.ntmps19
    go_wp2
    go_ret
    exact Ret0.of rfl

theorem Fl.neg_int (x : Nat) : decide ((9223372036854775808 : Int) ≤ (x : Int)) = Fl.neg x := by rw [Fl.neg]; apply decide_eq_decide.2; omega
/-- The parts of a number, by its kind. -/
theorem Fl.parts (x : Nat) : (Fl.kind x < 2 ∧ Fl.mant x = Fl.frac x ∧ Fl.expn x = -1074) ∨ (Fl.kind x = 2 ∧ Fl.mant x = 4503599627370496 + Fl.frac x ∧ Fl.expn x = (Fl.expo x : Int) - 1075) ∨ (3 ≤ Fl.kind x ∧ Fl.mant x = 0 ∧ Fl.expn x = 0) := by
  rcases Nat.lt_trichotomy (Fl.kind x) 2 with h | h | h
  · exact Or.inl ⟨h, by rw [Fl.mant, if_neg (by omega), if_pos h], by rw [Fl.expn, if_neg (by omega), if_pos h]⟩
  · exact Or.inr (Or.inl ⟨h, by rw [Fl.mant, if_pos h], by rw [Fl.expn, if_pos h]⟩)
  · exact Or.inr (Or.inr ⟨h, by rw [Fl.mant, if_neg (by omega), if_neg (by omega)], by rw [Fl.expn, if_neg (by omega), if_neg (by omega)]⟩)

set_option maxHeartbeats 1000000 in
theorem fl_split_any (x : Nat) (hx : x < 18446744073709551616) (w : World) : Calls Tryz.prog 70 #[.int .u64 x] w (Ret0 (.tuple #[.bool (Fl.neg x), .int .u64 (Fl.mant x : Nat), .int .i64 (Fl.expn x)]) w) := by
  have hand1 := Fl.and_expo x hx
  have hand2 := Fl.and_frac x hx
  have hp := Fl.parts x
  have he2 := Fl.expo_lt x
  have hf2 := Fl.frac_lt x
  have hor := Fl.or_one _ hf2
  have hn := Fl.neg_int x
  have hK := fl_kind_any x hx
  obtain ⟨q, hq⟩ : ∃ q, q = x / 4503599627370496 := ⟨_, rfl⟩
  have hqi : (x : Int) / 4503599627370496 = (q : Int) := by omega
  rw [← hq] at hand1
  obtain ⟨e, he⟩ : ∃ e, e = Fl.expo x := ⟨_, rfl⟩
  obtain ⟨f, hf⟩ : ∃ e, e = Fl.frac x := ⟨_, rfl⟩
  obtain ⟨k, hkk⟩ : ∃ e, e = Fl.kind x := ⟨_, rfl⟩
  obtain ⟨m, hm⟩ : ∃ e, e = Fl.mant x := ⟨_, rfl⟩
  obtain ⟨ex, hex⟩ : ∃ e, e = Fl.expn x := ⟨_, rfl⟩
  obtain ⟨s, hs⟩ : ∃ e, e = Fl.neg x := ⟨_, rfl⟩
  rw [← he, ← hf, ← hkk, ← hm, ← hex] at hp
  rw [← he] at hand1 he2
  rw [← hf] at hand2 hf2 hor
  rw [← hkk] at hK
  rw [← hs] at hn
  rw [← hm, ← hex, ← hs]
  have HK := Lib.hid hK
  clear he hf hkk hm hex hs hq hK
  rcases hp with ⟨h1, rfl, rfl⟩ | ⟨rfl, rfl, rfl⟩ | ⟨h1, rfl, rfl⟩
  · have h01 : k = 0 ∨ k = 1 := by omega
    rcases h01 with rfl | rfl
    all_goals (
      go_enter Tryz.func70, Tryz.ntmps70
      go_wp2_with (go_at_call 69; (with_reducible refine (HK.out _).mono ?_); rintro e w' ⟨rfl, rfl⟩)
      refine bodyPost_ret (v := .tuple #[.bool s, .int .u64 m, .int .i64 (-1074)]) (by simp [results, Tryz.results70, go_sem]) rfl (Ret0.of rfl))
  · go_enter Tryz.func70, Tryz.ntmps70
    go_wp2_with (go_at_call 69; (with_reducible refine (HK.out _).mono ?_); rintro e w' ⟨rfl, rfl⟩)
    refine bodyPost_ret (v := .tuple #[.bool s, .int .u64 ((4503599627370496 + f : Nat) : Int), .int .i64 ((e : Int) - 1075)]) (by simp [results, Tryz.results70, go_sem, hor]) rfl (Ret0.of rfl)
  · have b0 : ((k : Int) == 0) = false := by simp; omega
    have b1 : ((k : Int) == 1) = false := by simp; omega
    have b2 : ((k : Int) == 2) = false := by simp; omega
    go_enter Tryz.func70, Tryz.ntmps70
    go_wp2_with (go_at_call 69; (with_reducible refine (HK.out _).mono ?_); rintro e w' ⟨rfl, rfl⟩)
    refine bodyPost_ret (v := .tuple #[.bool s, .int .u64 0, .int .i64 0]) (by simp [results, Tryz.results70, go_sem]) rfl (Ret0.of rfl)

set_option maxHeartbeats 1000000 in
theorem r3_is_any (x : Nat) (w : World) : Calls Tryz.prog 94 #[.int .u64 x] w (Ret0 (.bool (Fl.neg x)) w) := by
  have hn := Fl.neg_int x
  go_enter Tryz.func94, Tryz.ntmps94
  go_wp2
  refine bodyPost_ret (v := .bool (Fl.neg x)) (by simp [results, Tryz.results94, go_sem, hn]) rfl (Ret0.of rfl)

set_option maxHeartbeats 1000000 in
theorem r3_split_any (x : Nat) (hx : x < 18446744073709551616) (w : World) : Calls Tryz.prog 27 #[.int .u64 x] w (Ret0 (.tuple #[.bool (Fl.neg x), .int .u64 (Fl.mant x : Nat), .int .i64 (Fl.expn x)]) w) := by
  have hp := Fl.parts x
  have he2 := Fl.expo_lt x
  have hf2 := Fl.frac_lt x
  have hK := r3_kind_any x hx
  have hI := r3_is_any x
  obtain ⟨e, he⟩ : ∃ e, e = Fl.expo x := ⟨_, rfl⟩
  obtain ⟨f, hf⟩ : ∃ e, e = Fl.frac x := ⟨_, rfl⟩
  obtain ⟨k, hkk⟩ : ∃ e, e = Fl.kind x := ⟨_, rfl⟩
  obtain ⟨m, hm⟩ : ∃ e, e = Fl.mant x := ⟨_, rfl⟩
  obtain ⟨ex, hex⟩ : ∃ e, e = Fl.expn x := ⟨_, rfl⟩
  obtain ⟨s, hs⟩ : ∃ e, e = Fl.neg x := ⟨_, rfl⟩
  have hei : (x : Int) / 4503599627370496 % 2048 = (e : Int) := by rw [he, Fl.expo]; omega
  have hfi : (x : Int) % 4503599627370496 = (f : Int) := by rw [hf, Fl.frac]; omega
  rw [← he, ← hf, ← hkk, ← hm, ← hex] at hp
  rw [← he] at he2
  rw [← hf] at hf2
  rw [← hkk] at hK
  rw [← hs] at hI
  rw [← hm, ← hex, ← hs]
  have HK := Lib.hid hK; have HI := Lib.hid hI
  clear he hf hkk hm hex hs hK hI
  rcases hp with ⟨h1, rfl, rfl⟩ | ⟨rfl, rfl, rfl⟩ | ⟨h1, rfl, rfl⟩
  · have h01 : k = 0 ∨ k = 1 := by omega
    rcases h01 with rfl | rfl
    all_goals (
      go_enter Tryz.func27, Tryz.ntmps27
      go_wp2_with (first | (go_at_call 19; (with_reducible refine (HK.out _).mono ?_); rintro e w' ⟨rfl, rfl⟩) | (go_at_call 94; (with_reducible refine (HI.out _).mono ?_); rintro e w' ⟨rfl, rfl⟩))
      refine bodyPost_ret (v := .tuple #[.bool s, .int .u64 m, .int .i64 (-1074)]) (by simp [results, Tryz.results27, go_sem, hfi]) rfl (Ret0.of rfl))
  · go_enter Tryz.func27, Tryz.ntmps27
    go_wp2_with (first | (go_at_call 19; (with_reducible refine (HK.out _).mono ?_); rintro e w' ⟨rfl, rfl⟩) | (go_at_call 94; (with_reducible refine (HI.out _).mono ?_); rintro e w' ⟨rfl, rfl⟩))
    refine bodyPost_ret (v := .tuple #[.bool s, .int .u64 ((4503599627370496 + f : Nat) : Int), .int .i64 ((e : Int) - 1075)]) (by simp [results, Tryz.results27, go_sem, hfi]) rfl (Ret0.of rfl)
  · have b0 : ((k : Int) == 0) = false := by simp; omega
    have b1 : ((k : Int) == 1) = false := by simp; omega
    have b2 : ((k : Int) == 2) = false := by simp; omega
    go_enter Tryz.func27, Tryz.ntmps27
    go_wp2_with (first | (go_at_call 19; (with_reducible refine (HK.out _).mono ?_); rintro e w' ⟨rfl, rfl⟩) | (go_at_call 94; (with_reducible refine (HI.out _).mono ?_); rintro e w' ⟨rfl, rfl⟩))
    refine bodyPost_ret (v := .tuple #[.bool s, .int .u64 0, .int .i64 0]) (by simp [results, Tryz.results27, go_sem, hfi]) rfl (Ret0.of rfl)

end Go.Proofs.YtjnkbifafbjckaaGreatDoor

namespace Go.Proofs.YtjnkbifafbjckaaGreatDoor
set_option linter.all false
open Go.RowKit

theorem r7_digit_any (c : UInt8) (w : World) : Calls Tryz.prog 90 #[.int .u8 c.toNat] w (Ret0 (.bool (Dc.isDig c)) w) := by
  have h1 : (decide (48 ≤ (c.toNat : Int)) && decide ((c.toNat : Int) ≤ 57)) = Dc.isDig c := rfl
  have H1 := Lib.hid h1; clear h1
  by_cases h : 48 ≤ (c.toNat : Int)
  · go_enter Tryz.func90, Tryz.ntmps90
    go_wp2
    go_ret
    exact Ret0.of (by rw [← H1.out]; simp [h])
  · go_enter Tryz.func90, Tryz.ntmps90
    go_wp2
    go_ret
    exact Ret0.of (by rw [← H1.out, decide_eq_false (by omega)]; rfl)

set_option maxHeartbeats 400000 in
theorem r7_right_any (n : Bool) (s : ByteArray) (x : Int) (w : World) (hs : s.size ≤ 9223372036854775807) :
    Calls Tryz.prog 91 #[.agg #[.bool n, .string s, .int .i64 x]] w (RetB (.bool (Dc.right s.data.toList x)) w) := by
  have hb1 : Below w.heap.size w (w.alloc (Obj.cells #[Value.bool n, Value.string s, Value.int IntKind.i64 x] 25)) := (Below.refl _ _).alloc (Nat.le_refl _) _
  by_cases h0 : s.size = 0
  · have H0 := Lib.hid h0
    replace h0 : s.size ≤ 0 := by omega
    go_enter Tryz.func91, Tryz.ntmps91
    go_wp2_with fail
    go_ret
    exact RetB.of (congrArg Value.bool (Dc.right_nil _ _ (by simpa using H0.out)).symm) hb1
  · replace h0 : 0 < s.size := by omega
    by_cases hall : s.size ≤ 1100 ∧ -100000 ≤ x ∧ x ≤ 100000 ∧ ¬ (s[0].toNat : Int) = 48 ∧ ¬ (s[s.size - 1].toNat : Int) = 48
    · obtain ⟨n2, n3, n4, n0, n1⟩ := hall
      have b0 : ((s[0].toNat : Int) == 48) = false := by simpa using n0
      have b1 : ((s[s.size - 1].toNat : Int) == 48) = false := by simpa using n1
      go_enter Tryz.func91, Tryz.ntmps91
      go_wp2_with fail
      go_loop [4] (fun i => ∃ k : Nat, k ≤ s.size ∧ i = .int .i64 k ∧ (s.data.toList.take k).all Dc.isDig = true) (fun i => s.size - (intOf i).toNat)
      case atStart => exact ⟨0, Nat.zero_le _, rfl, rfl⟩
      case round =>
        obtain ⟨k, hk, rfl, hall⟩ := hrel
        have HA := Lib.hid hall; clear hall
        by_cases hlt : k < s.size
        · have hsn := Lib.hid (all_take_snoc s k hlt Dc.isDig)
          go_wp2_with (go_at_call 90; refine (r7_digit_any _ _).mono ?_; rintro e w' ⟨rfl, rfl⟩)
          · have hd : (!Dc.isDig s[k]) = true := by assumption
            go_ret
            exact RetB.of (congrArg Value.bool (Dc.right_bytes_nodig s x k hlt (by simpa using hd)).symm) hb1
          · have hd : (!Dc.isDig s[k]) = false := by assumption
            go_round
            case rel => exact ⟨k + 1, by omega, by go_num, by rw [hsn.out, HA.out]; simpa using hd⟩
            case measure => simp [intOf]; omega
        · go_wp2
          go_ret
          exact RetB.of (congrArg Value.bool (Dc.right_bytes_true s x h0 n2 n3 n4 n0 n1 (by have := HA.out; rwa [List.take_of_length_le (by simp; omega)] at this)).symm) hb1
    · have HN := Lib.hid hall; clear hall
      go_enter Tryz.func91, Tryz.ntmps91
      go_wp2_with fail
      all_goals first
        | (go_ret; exact RetB.of (congrArg Value.bool (Dc.right_bytes_false s x h0 (by first | omega | (simp only [beq_iff_eq] at *; omega))).symm) hb1)
        | (exfalso; have := HN.out; simp only [beq_eq_false_iff_ne, ne_eq] at *; omega)
end Go.Proofs.YtjnkbifafbjckaaGreatDoor

namespace Go.Proofs.YtjnkbifafbjckaaGreatDoor
set_option linter.all false
open Go.RowKit

theorem below_iter (w : World) (s : ByteArray) (pos : Nat) : Below w.heap.size w (w.iter s pos) := (Below.refl _ _).alloc (Nat.le_refl _) _

theorem all_take_snoc_false (s : ByteArray) (k : Nat) (h : k < s.size) (p : UInt8 → Bool) (hp : p s[k] = false) : s.data.toList.all p = false := by
  rw [List.all_eq_false]
  exact ⟨s[k], List.mem_of_getElem? (bs_getElem? s k h), by simp [hp]⟩

set_option maxRecDepth 100000 in
set_option maxHeartbeats 400000 in
theorem d_plain_any (s : ByteArray) (w : World) :
    Calls Tryz.prog 73 #[.string s] w (RetB (.bool (Dc.allDig s.data.toList)) w) := by
  obtain ⟨res, hres⟩ : ∃ b, b = Dc.allDig s.data.toList := ⟨_, rfl⟩
  rw [← hres]; have HR := Lib.hid hres; clear hres
  go_enter Tryz.func73, Tryz.ntmps73
  go_wp2_with fail
  go_loopw [] (fun wr => ∃ pos : Nat, pos ≤ s.size ∧ wr = w.iter s pos ∧ (s.data.toList.take pos).all Dc.isDig = true) (fun wr => s.size - wr.iterPos w.heap.size)
  case atStart => exact ⟨0, Nat.zero_le _, rfl, rfl⟩
  case round =>
    obtain ⟨pos, hpos, rfl, hall⟩ := hrel
    have HA := Lib.hid hall; clear hall
    by_cases hp : pos < s.size
    · have hsn := Lib.hid (all_take_snoc s pos hp Dc.isDig)
      have hno : Dc.isDig s[pos] = false → false = res := fun h => by rw [HR.out]; exact (all_take_snoc_false s pos hp _ h).symm
      have HNO := Lib.hid hno; clear hno
      by_cases ha : (s[pos]'hp).toNat < 128
      · have hnx : ∀ ty, (Instr.next (.pointer (some ⟨w.heap.size, 0, none⟩)) true ty).run Tryz.prog (w.iter s pos) = _ := fun ty => run_next_ascii w s pos ty hp ha
        go_wp2
        · go_ret
          exact RetB.of (congrArg Value.bool (HNO.out (by simp [Dc.isDig]; omega))) (below_iter _ _ _)
        · go_roundw
          case rel => exact ⟨pos + 1, by omega, rfl, by rw [hsn.out, HA.out]; simp [Dc.isDig]; omega⟩
          case measure => simp; omega
        · go_ret
          exact RetB.of (congrArg Value.bool (HNO.out (by simp [Dc.isDig]; omega))) (below_iter _ _ _)
      · have hd := decode_high s pos hp (by omega)
        have hnx : ∀ ty, (Instr.next (.pointer (some ⟨w.heap.size, 0, none⟩)) true ty).run Tryz.prog (w.iter s pos) = _ := fun ty => run_next_any w s pos ty hp
        go_wp2
        all_goals go_ret
        all_goals exact RetB.of (congrArg Value.bool (HNO.out (by simp [Dc.isDig]; omega))) (below_iter _ _ _)
    · have hnx : ∀ ty, (Instr.next (.pointer (some ⟨w.heap.size, 0, none⟩)) true ty).run Tryz.prog (w.iter s pos) = _ := fun ty => run_next_end w s pos ty hp
      go_wp2
      go_ret
      exact RetB.of (congrArg Value.bool (by have h := HA.out; rw [List.take_of_length_le (by simp; omega)] at h; rw [HR.out]; exact h.symm)) (below_iter _ _ _)

set_option maxHeartbeats 400000 in
theorem d_right_any (n : Bool) (s : ByteArray) (x : Int) (w : World) (hs : s.size ≤ 9223372036854775807) :
    Calls Tryz.prog 20 #[.agg #[.bool n, .string s, .int .i64 x]] w (RetB (.bool (Dc.right s.data.toList x)) w) := by
  obtain ⟨res, hres⟩ : ∃ b, b = Dc.right s.data.toList x := ⟨_, rfl⟩
  rw [← hres]; have HR := Lib.hid hres; clear hres
  have hb1 : Below w.heap.size w (w.alloc (Obj.cells #[Value.bool n, Value.string s, Value.int IntKind.i64 x] 25)) := (Below.refl _ _).alloc (Nat.le_refl _) _
  by_cases h0 : s.size = 0
  · have he := isEmpty_of_zero h0
    have H0 := Lib.hid h0; clear h0
    go_enter Tryz.func20, Tryz.ntmps20
    go_wp2_with fail
    go_ret
    exact RetB.of (congrArg Value.bool (by rw [HR.out, Dc.right_nil _ _ (by simpa using H0.out)])) hb1
  · have h0' : 0 < s.size := by omega
    have he := isEmpty_of_pos h0'
    clear h0
    have hF : (1100 < s.size ∨ x < -100000 ∨ 100000 < x ∨ (s[0].toNat : Int) = 48 ∨ (s[s.size - 1].toNat : Int) = 48) → false = res := fun h => by rw [HR.out]; exact (Dc.right_bytes_false s x h0' h).symm
    have HF := Lib.hid hF; clear hF
    go_enter Tryz.func20, Tryz.ntmps20
    go_wp2_with (first
      | (go_at_call 73; refine (d_plain_any _ _).mono ?_; rintro e w1 ⟨rfl, hb2⟩; obtain ⟨hc, hf⟩ := bcell hb2)
      | (go_at_call 74; refine (Tryz.strings_HasSuffix _ _ _ hs).mono ?_; rintro e w' ⟨rfl, rfl⟩))
    all_goals go_ret
    · have hp : Dc.allDig s.data.toList = true := by assumption
      have hz : (s[0].toNat : Int) = 48 := by assumption
      exact RetB.of (congrArg Value.bool (HF.out (by omega))) (hb1.trans (hb2.mono (by simp)))
    · have hp : Dc.allDig s.data.toList = true := by assumption
      have hz : ¬ (s[0].toNat : Int) = 48 := by assumption
      refine RetB.of (congrArg Value.bool ?_) (hb1.trans (hb2.mono (by simp)))
      have hz' : ((s[0].toNat : Int) != 48) = true := by simpa using hz
      show (((s[0].toNat : Int) != 48) && !(Lib.hasSuffix s.data.toList [48])) = res
      rw [hz', Bool.true_and, Dc.hasSuffix_zero s h0']
      by_cases hl : (s[s.size - 1].toNat : Int) = 48
      · rw [decide_eq_true hl]; exact HF.out (by omega)
      · rw [decide_eq_false hl, HR.out, Dc.right_bytes_true s x h0' (by omega) (by omega) (by omega) hz hl hp]; rfl
    · have hp : ¬ Dc.allDig s.data.toList = true := by assumption
      refine RetB.of (congrArg Value.bool ?_) (hb1.trans (hb2.mono (by simp)))
      rw [HR.out, Dc.right_plain_false s x h0' (by simpa using hp)]
    all_goals exact RetB.of (congrArg Value.bool (HF.out (by omega))) hb1

theorem d_point_any (n : Bool) (s : ByteArray) (x : Int) (w : World) (hs : s.size ≤ 9223372036854775807) :
    Calls Tryz.prog 145 #[.agg #[.bool n, .string s, .int .i64 x]] w (RetB (.int .i64 (Dc.point s.data.toList x)) w) := by
  have hb1 : Below w.heap.size w (w.alloc (Obj.cells #[Value.bool n, Value.string s, Value.int IntKind.i64 x] 25)) := (Below.refl _ _).alloc (Nat.le_refl _) _
  obtain ⟨b, hr⟩ : ∃ b, b = Dc.right s.data.toList x := ⟨_, rfl⟩
  have hp := Dc.point_eq s x
  have HP := Lib.hid hp; clear hp
  have hd := d_right_any n s x (w.alloc (Obj.cells #[Value.bool n, Value.string s, Value.int IntKind.i64 x] 25)) hs
  rw [← hr] at hd
  have hx : b = true → -100000 ≤ x ∧ x ≤ 100000 ∧ s.size ≤ 1100 := fun h => by rw [hr] at h; exact ⟨(Dc.right_exp h).1, (Dc.right_exp h).2, by have := Dc.right_len h; simpa using this⟩
  cases b
  · have HD := Lib.hid hd; have HR := Lib.hid hr; clear hd hr
    go_enter Tryz.func145, Tryz.ntmps145
    go_wp2_with (first | (go_at_call 20; refine (HD.out).mono ?_; rintro e w1 ⟨rfl, hb2⟩; obtain ⟨hc, hf⟩ := bcell hb2))
    go_ret
    exact RetB.of (congrArg (Value.int .i64) (by rw [HP.out, ← HR.out]; rfl)) (hb1.trans (hb2.mono (by simp)))
  · have HD := Lib.hid hd; have HR := Lib.hid hr; clear hd hr
    have hx' := hx rfl; clear hx
    go_enter Tryz.func145, Tryz.ntmps145
    go_wp2_with (first | (go_at_call 20; refine (HD.out).mono ?_; rintro e w1 ⟨rfl, hb2⟩; obtain ⟨hc, hf⟩ := bcell hb2))
    go_ret
    exact RetB.of (congrArg (Value.int .i64) (by rw [HP.out, ← HR.out]; rfl)) (hb1.trans (hb2.mono (by simp)))
theorem r7_point_any (n : Bool) (s : ByteArray) (x : Int) (w : World) (hs : s.size ≤ 9223372036854775807) :
    Calls Tryz.prog 75 #[.agg #[.bool n, .string s, .int .i64 x]] w (RetB (.int .i64 (Dc.point s.data.toList x)) w) := by
  have hb1 : Below w.heap.size w (w.alloc (Obj.cells #[Value.bool n, Value.string s, Value.int IntKind.i64 x] 25)) := (Below.refl _ _).alloc (Nat.le_refl _) _
  obtain ⟨b, hr⟩ : ∃ b, b = Dc.right s.data.toList x := ⟨_, rfl⟩
  have hp := Dc.point_eq s x
  have HP := Lib.hid hp; clear hp
  have hd := r7_right_any n s x (w.alloc (Obj.cells #[Value.bool n, Value.string s, Value.int IntKind.i64 x] 25)) hs
  rw [← hr] at hd
  have hx : b = true → -100000 ≤ x ∧ x ≤ 100000 ∧ s.size ≤ 1100 := fun h => by rw [hr] at h; exact ⟨(Dc.right_exp h).1, (Dc.right_exp h).2, by have := Dc.right_len h; simpa using this⟩
  cases b
  · have HD := Lib.hid hd; have HR := Lib.hid hr; clear hd hr
    go_enter Tryz.func75, Tryz.ntmps75
    go_wp2_with (first | (go_at_call 91; refine (HD.out).mono ?_; rintro e w1 ⟨rfl, hb2⟩; obtain ⟨hc, hf⟩ := bcell hb2))
    go_ret
    exact RetB.of (congrArg (Value.int .i64) (by rw [HP.out, ← HR.out]; rfl)) (hb1.trans (hb2.mono (by simp)))
  · have HD := Lib.hid hd; have HR := Lib.hid hr; clear hd hr
    have hx' := hx rfl; clear hx
    go_enter Tryz.func75, Tryz.ntmps75
    go_wp2_with (first | (go_at_call 91; refine (HD.out).mono ?_; rintro e w1 ⟨rfl, hb2⟩; obtain ⟨hc, hf⟩ := bcell hb2))
    go_ret
    exact RetB.of (congrArg (Value.int .i64) (by rw [HP.out, ← HR.out]; rfl)) (hb1.trans (hb2.mono (by simp)))
end Go.Proofs.YtjnkbifafbjckaaGreatDoor
