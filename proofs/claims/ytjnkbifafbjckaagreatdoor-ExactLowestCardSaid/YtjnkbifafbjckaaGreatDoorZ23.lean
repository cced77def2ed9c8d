/- Plain Lean: the decimal that a number is: it is right, has at most 767 digits, and is worth what the bits are worth. -/
import Derived.Test.YtjnkbifafbjckaaGreatDoorZ21
import Derived.Test.YtjnkbifafbjckaaGreatDoorZ22
namespace Go.Proofs.YtjnkbifafbjckaaGreatDoor.Fl
set_option linter.all false
open Go

theorem nv_dec (N : Nat) : Dc.nv (Lib.decDigits N) = N := (Na.dec_spec N).2.1
theorem dig_dec (N : Nat) : Dc.allDig (Lib.decDigits N) = true := (Dc.decDigits_dig N).1
theorem len_dec {N k : Nat} (h : N < 10 ^ (k + 1)) : (Lib.decDigits N).length ≤ k + 1 := (Na.padk_eq k N h).2

/-- The bits' worth, by their parts. -/
theorem V_parts (x : Nat) (h : kind x < 3) : V (x % 9223372036854775808) = mant x * 2 ^ (expn x + 1074).toNat ∧ x % 9223372036854775808 < 9218868437227405312 := by
  have hE : x % 9223372036854775808 / 4503599627370496 = expo x := by rw [expo]; omega
  have hF : x % 9223372036854775808 % 4503599627370496 = frac x := by rw [frac]; omega
  have hlt := frac_lt x
  have hE2 : expo x ≠ 2047 := by
    intro e; unfold kind at h; rw [if_pos e] at h; split at h <;> omega
  have hdm := Nat.div_add_mod (x % 9223372036854775808) 4503599627370496
  rw [hE, hF] at hdm
  have hE3 := expo_lt x
  refine ⟨?_, by omega⟩
  rw [V, hE, hF]
  by_cases h0 : expo x = 0
  · have hk : kind x < 2 := by unfold kind; rw [if_neg hE2, if_neg (by omega)]; split <;> omega
    rw [if_pos h0, mant, if_neg (by omega), if_pos hk, expn, if_neg (by omega), if_pos hk, h0]; rfl
  · have hk : kind x = 2 := by unfold kind; rw [if_neg hE2, if_pos (by omega)]
    rw [if_neg h0, mant, if_pos hk, expn, if_pos hk]
    congr 2; omega

/-- How many digits the decimal may have: bounds that are told by numbers without great exponents. -/
def n309 : Nat := 309
def n767 : Nat := 767
def n800 : Nat := 800
def n971 : Nat := 971
theorem bound_up : 2 ^ 54 * 2 ^ n971 ≤ 10 ^ n309 := by decide +kernel
theorem bound_down : 2 ^ 53 * 5 ^ low ≤ 10 ^ n767 := by decide +kernel
theorem bound_mid : 2 ^ 54 * 5 ^ (low + 1) ≤ 10 ^ n800 := by decide +kernel
theorem dec_short {N c k : Nat} (h : N < c) (hc : c ≤ 10 ^ k) (hk : 0 < k) : (Lib.decDigits N).length ≤ k := by
  obtain ⟨d, rfl⟩ : ∃ d, k = d + 1 := ⟨k - 1, by omega⟩
  exact len_dec (Nat.lt_of_lt_of_le h hc)
theorem down_len {m k K : Nat} (hm : m < 2 ^ 53) (hk : k ≤ K) (hK : K = low) : (Lib.decDigits (m * 5 ^ k)).length ≤ 767 := by
  subst hK
  have h1 : m * 5 ^ k < 2 ^ 53 * 5 ^ low := Nat.lt_of_lt_of_le (Nat.mul_lt_mul_of_pos_right hm (Nat.pow_pos (by decide))) (Nat.mul_le_mul_left _ (Nat.pow_le_pow_right (by decide) hk))
  exact dec_short (k := n767) h1 bound_down (by decide)
theorem mid_len {m k K : Nat} (hm : m < 2 ^ 54) (hk : k ≤ K) (hK : K = low + 1) : (Lib.decDigits (m * 5 ^ k)).length ≤ 800 := by
  subst hK
  have h1 : m * 5 ^ k < 2 ^ 54 * 5 ^ (low + 1) := Nat.lt_of_lt_of_le (Nat.mul_lt_mul_of_pos_right hm (Nat.pow_pos (by decide))) (Nat.mul_le_mul_left _ (Nat.pow_le_pow_right (by decide) hk))
  exact dec_short (k := n800) h1 bound_mid (by decide)
theorem up_len {n k : Nat} (hn : n < 2 ^ 54) (hk : k ≤ n971) : (Lib.decDigits (n * 2 ^ k)).length ≤ 309 := by
  have h1 : n * 2 ^ k < 2 ^ 54 * 2 ^ n971 := Nat.lt_of_lt_of_le (Nat.mul_lt_mul_of_pos_right hn (Nat.pow_pos (by decide))) (Nat.mul_le_mul_left _ (Nat.pow_le_pow_right (by decide) hk))
  exact dec_short (k := n309) h1 bound_up (by decide)

/-- What is made of so many digits is no error. -/
theorem mk_fine (s : Bool) (l : Dc.Bs) (y : Int) (hd : Dc.allDig l = true) (hl : l.length ≤ 1000) (hy : -50000 ≤ y ∧ y ≤ 50000) : (Dc.mk s l y).e = 0 ∧ (Dc.mk s l y).l.length ≤ l.length := by
  have h1 := Dc.core_len l
  have h2 := Dc.lead_len l
  have h3 := Dc.tz_le l
  by_cases hc : Dc.core l = []
  · rw [Dc.mk_zero hd hc]; exact ⟨rfl, Nat.zero_le _⟩
  · rw [Dc.mk_ok hd hc ((Dc.right_core (y + Dc.tz l) hd hc).2 ⟨by omega, by omega, by omega⟩)]
    exact ⟨rfl, by show (Dc.core l).length ≤ l.length; omega⟩

/-- The decimal of n times 2^e: right, of the sign, worth what it is to be. -/
structure Is (r : Dc.Res) (s : Bool) (n : Nat) (e : Int) : Prop where
  ok : r.e = 0
  sign : r.n = s
  right : Dc.right r.l r.x = true
  worth : Dc.vv r.l r.x * 2 ^ (low + 1) = n * 2 ^ (e + low + 1).toNat * 10 ^ Dc.lift

theorem of_is (s : Bool) (n : Nat) (e : Int) (hn : n < 2 ^ 54) (he : -1075 ≤ e ∧ e ≤ 971) : Is (of s n e) s n e := by
  by_cases h0 : 0 ≤ e
  · have hof : of s n e = Dc.mk s (Lib.decDigits (n * 2 ^ e.toNat)) 0 := by rw [of, if_pos h0]
    have hl := up_len hn (show e.toNat ≤ n971 by unfold n971; omega)
    obtain ⟨k1, k2⟩ := mk_fine s _ 0 (dig_dec (n * 2 ^ e.toNat)) (by omega) (by omega)
    obtain ⟨m1, m2, m3⟩ := Dc.mk_vv s _ 0 (dig_dec (n * 2 ^ e.toNat)) (by omega) k1
    rw [hof]
    refine ⟨k1, m1, m2, ?_⟩
    rw [m3, nv_dec, show ((0 : Int) + (Dc.lift : Int)).toNat = Dc.lift by omega, show (e + (low : Int) + 1).toNat = e.toNat + (low + 1) by omega, Nat.pow_add 2 e.toNat (low + 1), ← Nat.mul_assoc n, Nat.mul_right_comm]
  · obtain ⟨k0, hk0⟩ : ∃ k0 : Nat, e = -(k0 : Int) := ⟨(-e).toNat, by omega⟩
    subst hk0
    have hof : of s n (-(k0 : Int)) = Dc.mk s (Lib.decDigits ((halve k0 n).1 * 5 ^ (halve k0 n).2)) (-((halve k0 n).2 : Int)) := by
      rw [of, if_neg h0, Int.neg_neg, Int.toNat_natCast]
    obtain ⟨h1, h2⟩ := halve_le k0 n
    have h3 := halve_eq k0 n
    obtain ⟨m, hm⟩ : ∃ m, m = (halve k0 n).1 := ⟨_, rfl⟩
    obtain ⟨k, hk⟩ : ∃ m, m = (halve k0 n).2 := ⟨_, rfl⟩
    rw [← hm, ← hk] at hof h3
    rw [← hm] at h1
    rw [← hk] at h2
    have hlow : low = 1074 := rfl
    have hlift : Dc.lift = 200000 := rfl
    have hl := mid_len (m := m) (k := k) (K := low + 1) (by omega) (by omega) rfl
    obtain ⟨k1, k2⟩ := mk_fine s _ (-(k : Int)) (dig_dec (m * 5 ^ k)) (by omega) (by omega)
    obtain ⟨m1, m2, m3⟩ := Dc.mk_vv s _ (-(k : Int)) (dig_dec (m * 5 ^ k)) (by omega) k1
    rw [hof]
    refine ⟨k1, m1, m2, ?_⟩
    obtain ⟨c, hc⟩ : ∃ c, Dc.lift = k + c := ⟨Dc.lift - k, by omega⟩
    obtain ⟨d, hd⟩ : ∃ d, low + 1 = k0 + d := ⟨low + 1 - k0, by omega⟩
    rw [m3, nv_dec, show (-(k : Int) + (Dc.lift : Int)).toNat = c by omega, show (-(k0 : Int) + (low : Int) + 1).toNat = d by omega, hd, hc, Nat.pow_add, Nat.pow_add]
    have h10 : (10 : Nat) ^ k = 2 ^ k * 5 ^ k := by rw [← Nat.mul_pow]
    rw [h10]
    calc m * 5 ^ k * 10 ^ c * (2 ^ k0 * 2 ^ d) = (m * 2 ^ k0) * 5 ^ k * 10 ^ c * 2 ^ d := by simp only [Nat.mul_assoc, Nat.mul_comm, Nat.mul_left_comm]
      _ = (n * 2 ^ k) * 5 ^ k * 10 ^ c * 2 ^ d := by rw [h3]
      _ = n * 2 ^ d * (2 ^ k * 5 ^ k * 10 ^ c) := by simp only [Nat.mul_assoc, Nat.mul_comm, Nat.mul_left_comm]

/-- .. of a finite number: at most 767 digits. -/
theorem dec_len (x : Nat) : (of (neg x) (mant x) (expn x)).l.length ≤ 767 := by
  have hm := mant_lt x
  obtain ⟨he1, he2⟩ := expn_bound x
  by_cases h0 : 0 ≤ expn x
  · have hof : of (neg x) (mant x) (expn x) = Dc.mk (neg x) (Lib.decDigits (mant x * 2 ^ (expn x).toNat)) 0 := by rw [of, if_pos h0]
    have hl := up_len (n := mant x) (k := (expn x).toNat) (by omega) (show (expn x).toNat ≤ n971 by unfold n971; omega)
    have := (mk_fine (neg x) _ 0 (dig_dec (mant x * 2 ^ (expn x).toNat)) (by omega) (by omega)).2
    rw [hof]; omega
  · obtain ⟨k0, hk0⟩ : ∃ k0 : Nat, expn x = -(k0 : Int) := ⟨(-expn x).toNat, by omega⟩
    obtain ⟨h1, h2⟩ := halve_le k0 (mant x)
    have hof : of (neg x) (mant x) (expn x) = Dc.mk (neg x) (Lib.decDigits ((halve k0 (mant x)).1 * 5 ^ (halve k0 (mant x)).2)) (-((halve k0 (mant x)).2 : Int)) := by
      rw [hk0] at h0 ⊢
      rw [of, if_neg h0, Int.neg_neg, Int.toNat_natCast]
    have hl := down_len (m := (halve k0 (mant x)).1) (k := (halve k0 (mant x)).2) (K := low) (by omega) (by unfold low; omega) rfl
    have := (mk_fine (neg x) _ (-((halve k0 (mant x)).2 : Int)) (dig_dec ((halve k0 (mant x)).1 * 5 ^ (halve k0 (mant x)).2)) (by omega) (by omega)).2
    rw [hof]; omega
/-- Its worth, by the bits. -/
theorem dec_worth (x : Nat) (h : kind x < 3) : Is (of (neg x) (mant x) (expn x)) (neg x) (mant x) (expn x) ∧ Dc.vv (of (neg x) (mant x) (expn x)).l (of (neg x) (mant x) (expn x)).x * 2 ^ low = V (x % 9223372036854775808) * 10 ^ Dc.lift := by
  have hm := mant_lt x
  have he := expn_bound x
  have hi := of_is (neg x) (mant x) (expn x) (by omega) (by omega)
  refine ⟨hi, ?_⟩
  have hw := hi.worth
  have hlow : low = 1074 := rfl
  rw [show (expn x + (low : Int) + 1).toNat = (expn x + 1074).toNat + 1 by omega, Nat.pow_add 2 low 1, Nat.pow_add 2 (expn x + 1074).toNat 1, ← Nat.mul_assoc, ← Nat.mul_assoc, Nat.mul_right_comm _ (2 ^ 1) (10 ^ Dc.lift), ← (V_parts x h).1] at hw
  exact Nat.eq_of_mul_eq_mul_right (by decide) hw

/-- The nearest binary64 to a decimal, without the sign. -/
def bits (l : Dc.Bs) (x : Int) : Nat :=
  if 0 ≤ x then rd (Dc.nv l * 10 ^ x.toNat) 0 false
  else rd (Dc.nv l * 2 ^ (Na.bitLen (10 ^ (-x).toNat) + 70) / 10 ^ (-x).toNat) (-((Na.bitLen (10 ^ (-x).toNat) + 70 : Nat) : Int)) (decide (Dc.nv l * 2 ^ (Na.bitLen (10 ^ (-x).toNat) + 70) % 10 ^ (-x).toNat ≠ 0))

/-- A quotient, and whether anything is left, rounded: the nearest to n / b. -/
theorem quot_near {n b k : Nat} (hb : 0 < b) (hlong : n = 0 ∨ 54 ≤ Na.bitLen (n * 2 ^ k / b)) : Near (n * 2 ^ low) b (rd (n * 2 ^ k / b) (-(k : Int)) (decide (n * 2 ^ k % b ≠ 0))) := by
  have hdm := Nat.div_add_mod (n * 2 ^ k) b
  have hml := Nat.mod_lt (n * 2 ^ k) hb
  have hlow : low = 1074 := rfl
  refine rd_near (p := low) (q := k) hb (by omega) (fun h => ?_) (fun h => ?_) (fun h => ?_)
  · rcases hlong with h0 | h0
    · rw [h0, Nat.zero_mul] at h; simp at h
    · exact h0
  · have h0 : n * 2 ^ k % b = 0 := by have := of_decide_eq_false h; simpa using this
    rw [h0, Nat.add_zero] at hdm
    calc n * 2 ^ low * 2 ^ k = n * 2 ^ k * 2 ^ low := Nat.mul_right_comm _ _ _
      _ = b * (n * 2 ^ k / b) * 2 ^ low := by rw [hdm]
      _ = n * 2 ^ k / b * 2 ^ low * b := by rw [Nat.mul_comm b, Nat.mul_right_comm]
  · have h0 : n * 2 ^ k % b ≠ 0 := of_decide_eq_true h
    obtain ⟨t, ht⟩ : ∃ t, t = n * 2 ^ k / b := ⟨_, rfl⟩
    rw [← ht] at hdm ⊢
    have hp : 0 < 2 ^ low := Nat.pow_pos (by decide)
    rw [Nat.mul_right_comm n, Nat.mul_right_comm t, Nat.mul_right_comm (t + 1)]
    constructor
    · exact Nat.mul_lt_mul_of_pos_right (by rw [Nat.mul_comm]; omega) hp
    · refine Nat.mul_lt_mul_of_pos_right ?_ hp
      rw [Nat.add_mul, Nat.one_mul, Nat.mul_comm t]; omega
theorem quot_long {n b k : Nat} (hn : 0 < n) (hb : 0 < b) (hk : Na.bitLen b + 54 ≤ k + Na.bitLen n) : 54 ≤ Na.bitLen (n * 2 ^ k / b) := by
  obtain ⟨b1, b2, b3⟩ := bitLen_ge (n := b) (by omega)
  obtain ⟨n1, n2, n3⟩ := bitLen_ge (n := n) (by omega)
  have hq : 2 ^ 53 ≤ n * 2 ^ k / b := by
    rw [Nat.le_div_iff_mul_le hb]
    have e1 : 2 ^ 53 * b ≤ 2 ^ 53 * 2 ^ Na.bitLen b := Nat.mul_le_mul_left _ (Nat.le_of_lt b2)
    have e2 : 2 ^ (Na.bitLen n - 1) * 2 ^ k ≤ n * 2 ^ k := Nat.mul_le_mul_right _ n1
    rw [← Nat.pow_add] at e1 e2
    exact Nat.le_trans e1 (Nat.le_trans (Nat.pow_le_pow_right (by decide) (by omega)) e2)
  obtain ⟨q1, q2, q3⟩ := bitLen_ge (n := n * 2 ^ k / b) (by have : 0 < 2 ^ 53 := by decide
                                                            omega)
  have := (Nat.pow_lt_pow_iff_right (a := 2) (by decide)).1 (Nat.lt_of_le_of_lt hq q2)
  omega
/-- One scale for all decimals: the value in units of 2^-1074 is vv 2^1074 / 10^lift. -/
theorem near_scale {l : Dc.Bs} {x : Int} {b : Nat} (hx : -100000 ≤ x) : Near (Dc.vv l x * 2 ^ low) (10 ^ Dc.lift) b ↔ (if 0 ≤ x then Near (Dc.nv l * 10 ^ x.toNat * 2 ^ low) 1 b else Near (Dc.nv l * 2 ^ low) (10 ^ (-x).toNat) b) := by
  have sc : ∀ X D c : Nat, 0 < c → (Near (X * c) (D * c) b ↔ Near X D b) := fun X D c hc => by
    have e1 : ∀ z : Nat, z * (D * c) < 2 * (X * c) ↔ z * D < 2 * X := fun z => by
      rw [← Nat.mul_assoc, ← Nat.mul_assoc]; exact ⟨fun h => Nat.lt_of_mul_lt_mul_right h, fun h => Nat.mul_lt_mul_of_pos_right h hc⟩
    have e2 : ∀ z : Nat, z * (D * c) = 2 * (X * c) ↔ z * D = 2 * X := fun z => by
      rw [← Nat.mul_assoc, ← Nat.mul_assoc]; exact ⟨fun h => Nat.eq_of_mul_eq_mul_right hc h, fun h => by rw [h]⟩
    have e3 : ∀ z : Nat, 2 * (X * c) < z * (D * c) ↔ 2 * X < z * D := fun z => by
      rw [← Nat.mul_assoc, ← Nat.mul_assoc]; exact ⟨fun h => Nat.lt_of_mul_lt_mul_right h, fun h => Nat.mul_lt_mul_of_pos_right h hc⟩
    have e4 : ∀ z : Nat, 2 * (X * c) = z * (D * c) ↔ 2 * X = z * D := fun z => by
      rw [← Nat.mul_assoc, ← Nat.mul_assoc]; exact ⟨fun h => Nat.eq_of_mul_eq_mul_right hc h, fun h => by rw [h]⟩
    unfold Near
    rw [e1, e2, e3, e4]
  have hlift : Dc.lift = 200000 := rfl
  by_cases h0 : 0 ≤ x
  · rw [if_pos h0, ← sc (Dc.nv l * 10 ^ x.toNat * 2 ^ low) 1 (10 ^ Dc.lift) (Nat.pow_pos (by decide)), Nat.one_mul, Dc.vv, show (x + (Dc.lift : Int)).toNat = x.toNat + Dc.lift by omega, Nat.pow_add, ← Nat.mul_assoc, Nat.mul_right_comm _ (10 ^ Dc.lift)]
  · obtain ⟨k, hk⟩ : ∃ k : Nat, k = (-x).toNat := ⟨_, rfl⟩
    obtain ⟨c, hc⟩ : ∃ c, Dc.lift = k + c := ⟨Dc.lift - k, by omega⟩
    rw [if_neg h0, ← hk, ← sc (Dc.nv l * 2 ^ low) (10 ^ k) (10 ^ c) (Nat.pow_pos (by decide)), ← Nat.pow_add, ← hc, Dc.vv, show (x + (Dc.lift : Int)).toNat = c by omega, Nat.mul_right_comm]
theorem bits_near (l : Dc.Bs) (x : Int) (hx : -100000 ≤ x) : Near (Dc.vv l x * 2 ^ low) (10 ^ Dc.lift) (bits l x) := by
  rw [near_scale hx]
  have hlow : low = 1074 := rfl
  by_cases h0 : 0 ≤ x
  · rw [if_pos h0, bits, if_pos h0]
    exact rd_near (p := low) (q := 0) (by decide) (by omega) (fun h => by cases h) (fun _ => by rw [Nat.pow_zero, Nat.mul_one]) (fun h => by cases h)
  · rw [if_neg h0, bits, if_neg h0]
    refine quot_near (Nat.pow_pos (by decide)) ?_
    by_cases hn : Dc.nv l = 0
    · exact Or.inl hn
    · refine Or.inr (quot_long (by omega) (Nat.pow_pos (by decide)) ?_)
      have := (bitLen_ge hn).2.2
      omega
/-- A nearest is the bits. -/
theorem bits_eq {l : Dc.Bs} {x : Int} {b : Nat} (hx : -100000 ≤ x) (h : Near (Dc.vv l x * 2 ^ low) (10 ^ Dc.lift) b) : b = bits l x :=
  near_eq (Nat.pow_pos (by decide)) (Nat.pow_pos (by decide)) rfl h (bits_near l x hx)
/-- What a number's decimal is read as. -/
theorem bits_dec (x : Nat) (h : kind x < 3) : bits (of (neg x) (mant x) (expn x)).l (of (neg x) (mant x) (expn x)).x = x % 9223372036854775808 := by
  obtain ⟨hi, hw⟩ := dec_worth x h
  have hb := near_self (b := x % 9223372036854775808) (D := 10 ^ Dc.lift) (Nat.le_of_lt (V_parts x h).2) (Nat.pow_pos (by decide))
  rw [← hw] at hb
  exact (bits_eq (Dc.right_exp hi.right).1 hb).symm
end Go.Proofs.YtjnkbifafbjckaaGreatDoor.Fl
