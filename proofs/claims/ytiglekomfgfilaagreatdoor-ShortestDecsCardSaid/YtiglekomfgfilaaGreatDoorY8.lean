/- Plain Lean: the decimal that a number is: it is right, has at most 767 digits, and is worth what the bits are worth. -/
import Derived.Test.YtiglekomfgfilaaGreatDoorY6
import Derived.Test.YtiglekomfgfilaaGreatDoorY7
namespace Go.Proofs.YtiglekomfgfilaaGreatDoor.Fl
set_option linter.all false
open Go
theorem nv_dec (N : Nat) : Dc.nv (Lib.decDigits N) = N := (Na.dec_spec N).2.1
theorem dig_dec (N : Nat) : Dc.allDig (Lib.decDigits N) = true := (Dc.decDigits_dig N).1
theorem len_dec {N k : Nat} (h : N < 10 ^ (k + 1)) : (Lib.decDigits N).length ≤ k + 1 := (Na.padk_eq k N h).2
theorem V_parts (x : Nat) (h : kind x < 3) : V (x % 9223372036854775808) = mant x * 2 ^ (expn x + 1074).toNat ∧ x % 9223372036854775808 < 9218868437227405312 := by
  have hE : x % 9223372036854775808 / 4503599627370496 = expo x := by rw [expo]; omega
  have hF : x % 9223372036854775808 % 4503599627370496 = frac x := by rw [frac]; omega
  have hlt := frac_lt x
  have hE2 : expo x ≠ 2047 := by
    intro e; unfold kind at h; rw [if_pos e] at h; split at h <;> omega
  have hdm := Nat.div_add_mod (x % 9223372036854775808) 4503599627370496
  rw [hE, hF] at hdm
  have hE3 := expo_lt x
  refine ⟨?_, by omega⟩
  rw [V, hE, hF]
  by_cases h0 : expo x = 0
  · have hk : kind x < 2 := by unfold kind; rw [if_neg hE2, if_neg (by omega)]; split <;> omega
    rw [if_pos h0, mant, if_neg (by omega), if_pos hk, expn, if_neg (by omega), if_pos hk, h0]; rfl
  · have hk : kind x = 2 := by unfold kind; rw [if_neg hE2, if_pos (by omega)]
    rw [if_neg h0, mant, if_pos hk, expn, if_pos hk]
    congr 2; omega
def n309 : Nat := 309
def n800 : Nat := 800
def n971 : Nat := 971
theorem bound_up : 2 ^ 54 * 2 ^ n971 ≤ 10 ^ n309 := by decide +kernel
theorem bound_mid : 2 ^ 54 * 5 ^ (low + 1) ≤ 10 ^ n800 := by decide +kernel
theorem dec_short {N c k : Nat} (h : N < c) (hc : c ≤ 10 ^ k) (hk : 0 < k) : (Lib.decDigits N).length ≤ k := by
  obtain ⟨d, rfl⟩ : ∃ d, k = d + 1 := ⟨k - 1, by omega⟩
  exact len_dec (Nat.lt_of_lt_of_le h hc)
theorem mid_len {m k K : Nat} (hm : m < 2 ^ 54) (hk : k ≤ K) (hK : K = low + 1) : (Lib.decDigits (m * 5 ^ k)).length ≤ 800 := by
  subst hK
  have h1 : m * 5 ^ k < 2 ^ 54 * 5 ^ (low + 1) := Nat.lt_of_lt_of_le (Nat.mul_lt_mul_of_pos_right hm (Nat.pow_pos (by decide))) (Nat.mul_le_mul_left _ (Nat.pow_le_pow_right (by decide) hk))
  exact dec_short (k := n800) h1 bound_mid (by decide)
theorem up_len {n k : Nat} (hn : n < 2 ^ 54) (hk : k ≤ n971) : (Lib.decDigits (n * 2 ^ k)).length ≤ 309 := by
  have h1 : n * 2 ^ k < 2 ^ 54 * 2 ^ n971 := Nat.lt_of_lt_of_le (Nat.mul_lt_mul_of_pos_right hn (Nat.pow_pos (by decide))) (Nat.mul_le_mul_left _ (Nat.pow_le_pow_right (by decide) hk))
  exact dec_short (k := n309) h1 bound_up (by decide)
theorem mk_fine (s : Bool) (l : Dc.Bs) (y : Int) (hd : Dc.allDig l = true) (hl : l.length ≤ 1000) (hy : -50000 ≤ y ∧ y ≤ 50000) : (Dc.mk s l y).e = 0 ∧ (Dc.mk s l y).l.length ≤ l.length := by
  have h1 := Dc.core_len l
  have h2 := Dc.lead_len l
  have h3 := Dc.tz_le l
  by_cases hc : Dc.core l = []
  · rw [Dc.mk_zero hd hc]; exact ⟨rfl, Nat.zero_le _⟩
  · rw [Dc.mk_ok hd hc ((Dc.right_core (y + Dc.tz l) hd hc).2 ⟨by omega, by omega, by omega⟩)]
    exact ⟨rfl, by show (Dc.core l).length ≤ l.length; omega⟩
structure Is (r : Dc.Res) (s : Bool) (n : Nat) (e : Int) : Prop where
  ok : r.e = 0
  sign : r.n = s
  right : Dc.right r.l r.x = true
  worth : Dc.vv r.l r.x * 2 ^ (low + 1) = n * 2 ^ (e + low + 1).toNat * 10 ^ Dc.lift
theorem of_is (s : Bool) (n : Nat) (e : Int) (hn : n < 2 ^ 54) (he : -1075 ≤ e ∧ e ≤ 971) : Is (of s n e) s n e := by
  by_cases h0 : 0 ≤ e
  · have hof : of s n e = Dc.mk s (Lib.decDigits (n * 2 ^ e.toNat)) 0 := by rw [of, if_pos h0]
    have hl := up_len hn (show e.toNat ≤ n971 by unfold n971; omega)
    obtain ⟨k1, k2⟩ := mk_fine s _ 0 (dig_dec (n * 2 ^ e.toNat)) (by omega) (by omega)
    obtain ⟨m1, m2, m3⟩ := Dc.mk_vv s _ 0 (dig_dec (n * 2 ^ e.toNat)) (by omega) k1
    rw [hof]
    refine ⟨k1, m1, m2, ?_⟩
    rw [m3, nv_dec, show ((0 : Int) + (Dc.lift : Int)).toNat = Dc.lift by omega, show (e + (low : Int) + 1).toNat = e.toNat + (low + 1) by omega, Nat.pow_add 2 e.toNat (low + 1), ← Nat.mul_assoc n, Nat.mul_right_comm]
  · obtain ⟨k0, hk0⟩ : ∃ k0 : Nat, e = -(k0 : Int) := ⟨(-e).toNat, by omega⟩
    subst hk0
    have hof : of s n (-(k0 : Int)) = Dc.mk s (Lib.decDigits ((halve k0 n).1 * 5 ^ (halve k0 n).2)) (-((halve k0 n).2 : Int)) := by
      rw [of, if_neg h0, Int.neg_neg, Int.toNat_natCast]
    obtain ⟨h1, h2⟩ := halve_le k0 n
    have h3 := halve_eq k0 n
    obtain ⟨m, hm⟩ : ∃ m, m = (halve k0 n).1 := ⟨_, rfl⟩
    obtain ⟨k, hk⟩ : ∃ m, m = (halve k0 n).2 := ⟨_, rfl⟩
    rw [← hm, ← hk] at hof h3
    rw [← hm] at h1
    rw [← hk] at h2
    have hlow : low = 1074 := rfl
    have hlift : Dc.lift = 200000 := rfl
    have hl := mid_len (m := m) (k := k) (K := low + 1) (by omega) (by omega) rfl
    obtain ⟨k1, k2⟩ := mk_fine s _ (-(k : Int)) (dig_dec (m * 5 ^ k)) (by omega) (by omega)
    obtain ⟨m1, m2, m3⟩ := Dc.mk_vv s _ (-(k : Int)) (dig_dec (m * 5 ^ k)) (by omega) k1
    rw [hof]
    refine ⟨k1, m1, m2, ?_⟩
    obtain ⟨c, hc⟩ : ∃ c, Dc.lift = k + c := ⟨Dc.lift - k, by omega⟩
    obtain ⟨d, hd⟩ : ∃ d, low + 1 = k0 + d := ⟨low + 1 - k0, by omega⟩
    rw [m3, nv_dec, show (-(k : Int) + (Dc.lift : Int)).toNat = c by omega, show (-(k0 : Int) + (low : Int) + 1).toNat = d by omega, hd, hc, Nat.pow_add, Nat.pow_add]
    have h10 : (10 : Nat) ^ k = 2 ^ k * 5 ^ k := by rw [← Nat.mul_pow]
    rw [h10]
    calc m * 5 ^ k * 10 ^ c * (2 ^ k0 * 2 ^ d) = (m * 2 ^ k0) * 5 ^ k * 10 ^ c * 2 ^ d := by simp only [Nat.mul_assoc, Nat.mul_comm, Nat.mul_left_comm]
      _ = (n * 2 ^ k) * 5 ^ k * 10 ^ c * 2 ^ d := by rw [h3]
      _ = n * 2 ^ d * (2 ^ k * 5 ^ k * 10 ^ c) := by simp only [Nat.mul_assoc, Nat.mul_comm, Nat.mul_left_comm]
theorem dec_worth (x : Nat) (h : kind x < 3) : Is (of (neg x) (mant x) (expn x)) (neg x) (mant x) (expn x) ∧ Dc.vv (of (neg x) (mant x) (expn x)).l (of (neg x) (mant x) (expn x)).x * 2 ^ low = V (x % 9223372036854775808) * 10 ^ Dc.lift := by
  have hm := mant_lt x
  have he := expn_bound x
  have hi := of_is (neg x) (mant x) (expn x) (by omega) (by omega)
  refine ⟨hi, ?_⟩
  have hw := hi.worth
  have hlow : low = 1074 := rfl
  rw [show (expn x + (low : Int) + 1).toNat = (expn x + 1074).toNat + 1 by omega, Nat.pow_add 2 low 1, Nat.pow_add 2 (expn x + 1074).toNat 1, ← Nat.mul_assoc, ← Nat.mul_assoc, Nat.mul_right_comm _ (2 ^ 1) (10 ^ Dc.lift), ← (V_parts x h).1] at hw
  exact Nat.eq_of_mul_eq_mul_right (by decide) hw
def bits (l : Dc.Bs) (x : Int) : Nat :=
  if 0 ≤ x then rd (Dc.nv l * 10 ^ x.toNat) 0 false
  else rd (Dc.nv l * 2 ^ (Na.bitLen (10 ^ (-x).toNat) + 70) / 10 ^ (-x).toNat) (-((Na.bitLen (10 ^ (-x).toNat) + 70 : Nat) : Int)) (decide (Dc.nv l * 2 ^ (Na.bitLen (10 ^ (-x).toNat) + 70) % 10 ^ (-x).toNat ≠ 0))
theorem quot_near {n b k : Nat} (hb : 0 < b) (hlong : n = 0 ∨ 54 ≤ Na.bitLen (n * 2 ^ k / b)) : Near (n * 2 ^ low) b (rd (n * 2 ^ k / b) (-(k : Int)) (decide (n * 2 ^ k % b ≠ 0))) := by
  have hdm := Nat.div_add_mod (n * 2 ^ k) b
  have hml := Nat.mod_lt (n * 2 ^ k) hb
  have hlow : low = 1074 := rfl
  refine rd_near (p := low) (q := k) hb (by omega) (fun h => ?_) (fun h => ?_) (fun h => ?_)
  · rcases hlong with h0 | h0
    · rw [h0, Nat.zero_mul] at h; simp at h
    · exact h0
  · have h0 : n * 2 ^ k % b = 0 := by have := of_decide_eq_false h; simpa using this
    rw [h0, Nat.add_zero] at hdm
    calc n * 2 ^ low * 2 ^ k = n * 2 ^ k * 2 ^ low := Nat.mul_right_comm _ _ _
      _ = b * (n * 2 ^ k / b) * 2 ^ low := by rw [hdm]
      _ = n * 2 ^ k / b * 2 ^ low * b := by rw [Nat.mul_comm b, Nat.mul_right_comm]
  · have h0 : n * 2 ^ k % b ≠ 0 := of_decide_eq_true h
    obtain ⟨t, ht⟩ : ∃ t, t = n * 2 ^ k / b := ⟨_, rfl⟩
    rw [← ht] at hdm ⊢
    have hp : 0 < 2 ^ low := Nat.pow_pos (by decide)
    rw [Nat.mul_right_comm n, Nat.mul_right_comm t, Nat.mul_right_comm (t + 1)]
    constructor
    · exact Nat.mul_lt_mul_of_pos_right (by rw [Nat.mul_comm]; omega) hp
    · refine Nat.mul_lt_mul_of_pos_right ?_ hp
      rw [Nat.add_mul, Nat.one_mul, Nat.mul_comm t]; omega
theorem quot_long {n b k : Nat} (hn : 0 < n) (hb : 0 < b) (hk : Na.bitLen b + 54 ≤ k + Na.bitLen n) : 54 ≤ Na.bitLen (n * 2 ^ k / b) := by
  obtain ⟨b1, b2, b3⟩ := bitLen_ge (n := b) (by omega)
  obtain ⟨n1, n2, n3⟩ := bitLen_ge (n := n) (by omega)
  have hq : 2 ^ 53 ≤ n * 2 ^ k / b := by
    rw [Nat.le_div_iff_mul_le hb]
    have e1 : 2 ^ 53 * b ≤ 2 ^ 53 * 2 ^ Na.bitLen b := Nat.mul_le_mul_left _ (Nat.le_of_lt b2)
    have e2 : 2 ^ (Na.bitLen n - 1) * 2 ^ k ≤ n * 2 ^ k := Nat.mul_le_mul_right _ n1
    rw [← Nat.pow_add] at e1 e2
    exact Nat.le_trans e1 (Nat.le_trans (Nat.pow_le_pow_right (by decide) (by omega)) e2)
  obtain ⟨q1, q2, q3⟩ := bitLen_ge (n := n * 2 ^ k / b) (by have : 0 < 2 ^ 53 := by decide
                                                            omega)
  have := (Nat.pow_lt_pow_iff_right (a := 2) (by decide)).1 (Nat.lt_of_le_of_lt hq q2)
  omega
theorem near_scale {l : Dc.Bs} {x : Int} {b : Nat} (hx : -100000 ≤ x) : Near (Dc.vv l x * 2 ^ low) (10 ^ Dc.lift) b ↔ (if 0 ≤ x then Near (Dc.nv l * 10 ^ x.toNat * 2 ^ low) 1 b else Near (Dc.nv l * 2 ^ low) (10 ^ (-x).toNat) b) := by
  have sc : ∀ X D c : Nat, 0 < c → (Near (X * c) (D * c) b ↔ Near X D b) := fun X D c hc => by
    have e1 : ∀ z : Nat, z * (D * c) < 2 * (X * c) ↔ z * D < 2 * X := fun z => by
      rw [← Nat.mul_assoc, ← Nat.mul_assoc]; exact ⟨fun h => Nat.lt_of_mul_lt_mul_right h, fun h => Nat.mul_lt_mul_of_pos_right h hc⟩
    have e2 : ∀ z : Nat, z * (D * c) = 2 * (X * c) ↔ z * D = 2 * X := fun z => by
      rw [← Nat.mul_assoc, ← Nat.mul_assoc]; exact ⟨fun h => Nat.eq_of_mul_eq_mul_right hc h, fun h => by rw [h]⟩
    have e3 : ∀ z : Nat, 2 * (X * c) < z * (D * c) ↔ 2 * X < z * D := fun z => by
      rw [← Nat.mul_assoc, ← Nat.mul_assoc]; exact ⟨fun h => Nat.lt_of_mul_lt_mul_right h, fun h => Nat.mul_lt_mul_of_pos_right h hc⟩
    have e4 : ∀ z : Nat, 2 * (X * c) = z * (D * c) ↔ 2 * X = z * D := fun z => by
      rw [← Nat.mul_assoc, ← Nat.mul_assoc]; exact ⟨fun h => Nat.eq_of_mul_eq_mul_right hc h, fun h => by rw [h]⟩
    unfold Near
    rw [e1, e2, e3, e4]
  have hlift : Dc.lift = 200000 := rfl
  by_cases h0 : 0 ≤ x
  · rw [if_pos h0, ← sc (Dc.nv l * 10 ^ x.toNat * 2 ^ low) 1 (10 ^ Dc.lift) (Nat.pow_pos (by decide)), Nat.one_mul, Dc.vv, show (x + (Dc.lift : Int)).toNat = x.toNat + Dc.lift by omega, Nat.pow_add, ← Nat.mul_assoc, Nat.mul_right_comm _ (10 ^ Dc.lift)]
  · obtain ⟨k, hk⟩ : ∃ k : Nat, k = (-x).toNat := ⟨_, rfl⟩
    obtain ⟨c, hc⟩ : ∃ c, Dc.lift = k + c := ⟨Dc.lift - k, by omega⟩
    rw [if_neg h0, ← hk, ← sc (Dc.nv l * 2 ^ low) (10 ^ k) (10 ^ c) (Nat.pow_pos (by decide)), ← Nat.pow_add, ← hc, Dc.vv, show (x + (Dc.lift : Int)).toNat = c by omega, Nat.mul_right_comm]
theorem bits_near (l : Dc.Bs) (x : Int) (hx : -100000 ≤ x) : Near (Dc.vv l x * 2 ^ low) (10 ^ Dc.lift) (bits l x) := by
  rw [near_scale hx]
  have hlow : low = 1074 := rfl
  by_cases h0 : 0 ≤ x
  · rw [if_pos h0, bits, if_pos h0]
    exact rd_near (p := low) (q := 0) (by decide) (by omega) (fun h => by cases h) (fun _ => by rw [Nat.pow_zero, Nat.mul_one]) (fun h => by cases h)
  · rw [if_neg h0, bits, if_neg h0]
    refine quot_near (Nat.pow_pos (by decide)) ?_
    by_cases hn : Dc.nv l = 0
    · exact Or.inl hn
    · refine Or.inr (quot_long (by omega) (Nat.pow_pos (by decide)) ?_)
      have := (bitLen_ge hn).2.2
      omega
theorem bits_eq {l : Dc.Bs} {x : Int} {b : Nat} (hx : -100000 ≤ x) (h : Near (Dc.vv l x * 2 ^ low) (10 ^ Dc.lift) b) : b = bits l x :=
  near_eq (Nat.pow_pos (by decide)) (Nat.pow_pos (by decide)) rfl h (bits_near l x hx)
theorem bits_dec (x : Nat) (h : kind x < 3) : bits (of (neg x) (mant x) (expn x)).l (of (neg x) (mant x) (expn x)).x = x % 9223372036854775808 := by
  obtain ⟨hi, hw⟩ := dec_worth x h
  have hb := near_self (b := x % 9223372036854775808) (D := 10 ^ Dc.lift) (Nat.le_of_lt (V_parts x h).2) (Nat.pow_pos (by decide))
  rw [← hw] at hb
  exact (bits_eq (Dc.right_exp hi.right).1 hb).symm
end Go.Proofs.YtiglekomfgfilaaGreatDoor.Fl

/- Plain Lean: how the reference reads a right decimal: the ends, and the quotient to any length. -/
namespace Go.Proofs.YtiglekomfgfilaaGreatDoor.Fl
set_option linter.all false
theorem bits_nil : bits [] 0 = 0 := by
  rw [bits, if_pos (by omega), Dc.nv_nil, Nat.zero_mul, rd, if_pos rfl]
def n400 : Nat := 400
def n401 : Nat := 401
def n2046 : Nat := 2046
theorem bound_small : 2 * 2 ^ low ≤ 10 ^ n401 := by decide +kernel
theorem bound_big : 4503599627370496 * 2 ^ n2046 ≤ 10 ^ n400 * 2 ^ low := by decide +kernel
theorem V_inf : V 9218868437227405312 = 4503599627370496 * 2 ^ n2046 := V_form n2046 4503599627370496 (Or.inr ⟨Nat.le_refl _, by decide⟩)
theorem V_one : V 1 = 1 := by
  have := V_form 0 1 (Or.inl ⟨rfl, by decide⟩)
  simpa using this
theorem bits_small {l : Dc.Bs} {x : Int} (h : Dc.right l x = true) (hne : l ≠ []) (hp : (l.length : Int) + x < -400) : bits l x = 0 := by
  have hx := (Dc.right_exp h).1
  refine (bits_eq hx ⟨by decide, Or.inl rfl, Or.inr (Or.inl ?_)⟩).symm
  have hv := (Dc.vv_bounds h hne).2
  have hl : Dc.lift = 200000 := rfl
  obtain ⟨c, hc⟩ : ∃ c, Dc.lift = c + n401 := ⟨Dc.lift - n401, by unfold n401; omega⟩
  have h4 : n401 = 401 := rfl
  have hv2 : Dc.vv l x < 10 ^ c := Nat.lt_of_lt_of_le hv (Nat.pow_le_pow_right (by decide) (by omega))
  rw [Nat.zero_add, V_zero, V_one, Nat.zero_add, Nat.one_mul, hc, Nat.pow_add]
  have h1 : 2 * (Dc.vv l x * 2 ^ low) = Dc.vv l x * (2 * 2 ^ low) := by rw [Nat.mul_left_comm]
  rw [h1]
  exact Nat.lt_of_le_of_lt (Nat.mul_le_mul_left _ bound_small) (Nat.mul_lt_mul_of_pos_right hv2 (Nat.pow_pos (by decide)))
theorem bits_big {l : Dc.Bs} {x : Int} (h : Dc.right l x = true) (hne : l ≠ []) (hp : 400 < (l.length : Int) + x) : bits l x = 9218868437227405312 := by
  have hx := (Dc.right_exp h).1
  refine (bits_eq hx ⟨Nat.le_refl _, Or.inr (Or.inl ?_), Or.inl rfl⟩).symm
  have hv := (Dc.vv_bounds h hne).1
  have hl : Dc.lift = 200000 := rfl
  have h4 : n400 = 400 := rfl
  have hv2 : 10 ^ n400 * 10 ^ Dc.lift ≤ Dc.vv l x := by
    rw [← Nat.pow_add]
    exact Nat.le_trans (Nat.pow_le_pow_right (by decide) (by omega)) hv
  have hlt : V (9218868437227405312 - 1) < V 9218868437227405312 := V_lt (by decide)
  have hD : 0 < 10 ^ Dc.lift := Nat.pow_pos (by decide)
  have h1 : (V (9218868437227405312 - 1) + V 9218868437227405312) * 10 ^ Dc.lift < 2 * (V 9218868437227405312) * 10 ^ Dc.lift := Nat.mul_lt_mul_of_pos_right (by omega) hD
  refine Nat.lt_of_lt_of_le h1 ?_
  rw [Nat.mul_assoc]
  refine Nat.mul_le_mul_left _ ?_
  rw [V_inf]
  refine Nat.le_trans (Nat.mul_le_mul_right _ bound_big) ?_
  rw [Nat.mul_right_comm]
  exact Nat.mul_le_mul_right _ hv2
theorem bits_quot {l : Dc.Bs} {x : Int} {k : Nat} (hx : -100000 ≤ x) (h0 : x < 0) (hn : 0 < Dc.nv l) (hk : Na.bitLen (10 ^ (-x).toNat) + 54 ≤ k + Na.bitLen (Dc.nv l)) :
    rd (Dc.nv l * 2 ^ k / 10 ^ (-x).toNat) (-(k : Int)) (decide (Dc.nv l * 2 ^ k % 10 ^ (-x).toNat ≠ 0)) = bits l x := by
  refine bits_eq hx ?_
  rw [near_scale hx, if_neg (by omega)]
  exact quot_near (Nat.pow_pos (by decide)) (Or.inr (quot_long hn (Nat.pow_pos (by decide)) hk))
theorem bits_whole {l : Dc.Bs} {x : Int} (h0 : 0 ≤ x) : rd (Dc.nv l * 10 ^ x.toNat) 0 false = bits l x := by
  rw [bits, if_pos h0]
def wsign (s : Bool) : Nat := if s then 9223372036854775808 else 0
end Go.Proofs.YtiglekomfgfilaaGreatDoor.Fl

/- Plain Lean: the other sign of a number. -/
namespace Go.Proofs.YtiglekomfgfilaaGreatDoor.Fl
set_option linter.all false
def flip (x : Nat) : Nat := if x < 9223372036854775808 then x + 9223372036854775808 else x - 9223372036854775808
theorem flip_frac (x : Nat) : frac (flip x) = frac x := by unfold flip frac; split <;> omega
theorem flip_expo {x : Nat} (hx : x < 18446744073709551616) : expo (flip x) = expo x := by unfold flip expo; split <;> omega
theorem flip_kind {x : Nat} (hx : x < 18446744073709551616) : kind (flip x) = kind x := by unfold kind; rw [flip_frac, flip_expo hx]
theorem flip_mant {x : Nat} (hx : x < 18446744073709551616) : mant (flip x) = mant x := by unfold mant; rw [flip_frac, flip_kind hx]
theorem flip_expn {x : Nat} (hx : x < 18446744073709551616) : expn (flip x) = expn x := by unfold expn; rw [flip_expo hx, flip_kind hx]
theorem mk_sign (s t : Bool) (l : Dc.Bs) (x : Int) (h : (Dc.mk s l x).e = 0) : Dc.mk t l x = ⟨t, (Dc.mk s l x).l, (Dc.mk s l x).x, 0⟩ ∧ (Dc.mk s l x).n = s := by
  unfold Dc.mk at h ⊢
  split at h
  · rename_i h1
    rw [if_pos h1, if_pos h1]
    split at h
    · rename_i h2
      rw [if_pos h2, if_pos h2]; exact ⟨rfl, rfl⟩
    · rename_i h2
      rw [if_neg h2, if_neg h2]
      split at h
      · rename_i h3
        rw [if_pos h3, if_pos h3]; exact ⟨rfl, rfl⟩
      · cases h
  · cases h
theorem of_sign (s t : Bool) (n : Nat) (e : Int) (h : (of s n e).e = 0) : of t n e = ⟨t, (of s n e).l, (of s n e).x, 0⟩ ∧ (of s n e).n = s := by
  unfold of at h ⊢
  split at h
  · rename_i h1; rw [if_pos h1, if_pos h1]; exact mk_sign s t _ _ h
  · rename_i h1; rw [if_neg h1, if_neg h1]; exact mk_sign s t _ _ h
end Go.Proofs.YtiglekomfgfilaaGreatDoor.Fl

/- Plain Lean: the decimals of numbers, and of middles, by their size. -/
namespace Go.Proofs.YtiglekomfgfilaaGreatDoor.Fl
set_option linter.all false
open Go
end Go.Proofs.YtiglekomfgfilaaGreatDoor.Fl

/- Plain Lean: the nearest fraction of all denominators up to a bound. -/
namespace Go.Proofs.YtiglekomfgfilaaGreatDoor.Fl
set_option linter.all false
open Go
structure Frac where
  d : Dc.Res
  p : Int
  q : Int
  e : Int
end Go.Proofs.YtiglekomfgfilaaGreatDoor.Fl

/- Plain Lean: a number of eighths is told as it is; naturals of 53 bits. -/
namespace Go.Proofs.YtiglekomfgfilaaGreatDoor.Fl
set_option linter.all false
open Go
theorem form_parts (j m : Nat) (hj : j ≤ 2045) (h1 : 4503599627370496 ≤ m) (h2 : m < 9007199254740992) : kind (j * 4503599627370496 + m) = 2 ∧ mant (j * 4503599627370496 + m) = m ∧ expn (j * 4503599627370496 + m) = (j : Int) - 1074 ∧
    neg (j * 4503599627370496 + m) = false ∧ V (j * 4503599627370496 + m) = m * 2 ^ j ∧ j * 4503599627370496 + m < 9218868437227405312 := by
  have hE : expo (j * 4503599627370496 + m) = j + 1 := by unfold expo; omega
  have hF : frac (j * 4503599627370496 + m) = m - 4503599627370496 := by unfold frac; omega
  have hk : kind (j * 4503599627370496 + m) = 2 := by unfold kind; rw [hE, if_neg (by omega), if_pos (by omega)]
  refine ⟨hk, by rw [mant, if_pos hk, hF]; omega, by rw [expn, if_pos hk, hE]; omega, decide_eq_false (by omega), V_form j m (Or.inr ⟨h1, by omega⟩), by omega⟩
theorem nat_full (D : Nat) (h0 : 0 < D) (hD : D < 9007199254740992) : ∃ t : Nat, t ≤ 52 ∧ 4503599627370496 ≤ D * 2 ^ t ∧ D * 2 ^ t < 9007199254740992 := by
  obtain ⟨a1, a2, a3⟩ := bitLen_ge (n := D) (by omega)
  have hl : Na.bitLen D ≤ 53 := by
    rcases Nat.lt_or_ge 53 (Na.bitLen D) with h | h
    · have : 2 ^ 53 ≤ 2 ^ (Na.bitLen D - 1) := Nat.pow_le_pow_right (by decide) (by omega)
      omega
    · exact h
  refine ⟨53 - Na.bitLen D, by omega, ?_, ?_⟩
  · have := Nat.mul_le_mul_right (2 ^ (53 - Na.bitLen D)) a1
    rw [← Nat.pow_add, show Na.bitLen D - 1 + (53 - Na.bitLen D) = 52 by omega] at this
    exact this
  · have := Nat.mul_lt_mul_of_pos_right a2 (show 0 < 2 ^ (53 - Na.bitLen D) from Nat.pow_pos (by decide))
    rw [← Nat.pow_add, show Na.bitLen D + (53 - Na.bitLen D) = 53 by omega] at this
    exact this
end Go.Proofs.YtiglekomfgfilaaGreatDoor.Fl

/- Plain Lean: the bits of a rounded number, step by step as they are put together. -/
namespace Go.Proofs.YtiglekomfgfilaaGreatDoor.Fl
set_option linter.all false
open Go
theorem kept_bounds {n : Nat} {e : Int} (hn : n ≠ 0) (k : Nat) (hk : (k : Int) = ulp n e - e) (hk0 : 0 < k) : n / 2 ^ k < 9007199254740992 ∧ (-1074 < ulp n e → 4503599627370496 ≤ n / 2 ^ k) := by
  obtain ⟨b1, b2, b3⟩ := bitLen_ge hn
  have hkp : 0 < 2 ^ k := Nat.pow_pos (by decide)
  have hu : ulp n e = max (e + (Na.bitLen n : Int) - 53) (-1074) := rfl
  constructor
  · have hlt : n / 2 ^ k < 2 ^ 53 := by
      rw [Nat.div_lt_iff_lt_mul hkp, ← Nat.pow_add]
      exact Nat.lt_of_lt_of_le b2 (Nat.pow_le_pow_right (by decide) (by omega))
    omega
  · intro hj
    have hge : 2 ^ 52 ≤ n / 2 ^ k := by
      rw [Nat.le_div_iff_mul_le hkp, ← Nat.pow_add]
      exact Nat.le_trans (Nat.pow_le_pow_right (by decide) (by omega)) b1
    omega
theorem up_bounds {n : Nat} {e : Int} (hn : n ≠ 0) (t : Nat) (ht : (t : Int) = e - ulp n e) : n * 2 ^ t < 9007199254740992 ∧ (-1074 < ulp n e → 4503599627370496 ≤ n * 2 ^ t) := by
  obtain ⟨b1, b2, b3⟩ := bitLen_ge hn
  have hu : ulp n e = max (e + (Na.bitLen n : Int) - 53) (-1074) := rfl
  constructor
  · have hlt : n * 2 ^ t < 2 ^ 53 := by
      have : n * 2 ^ t < 2 ^ Na.bitLen n * 2 ^ t := Nat.mul_lt_mul_of_pos_right b2 (Nat.pow_pos (by decide))
      rw [← Nat.pow_add] at this
      exact Nat.lt_of_lt_of_le this (Nat.pow_le_pow_right (by decide) (by omega))
    omega
  · intro hj
    have hge : 2 ^ 52 ≤ n * 2 ^ t := by
      have : 2 ^ (Na.bitLen n - 1) * 2 ^ t ≤ n * 2 ^ t := Nat.mul_le_mul_right _ b1
      rw [← Nat.pow_add] at this
      exact Nat.le_trans (Nat.pow_le_pow_right (by decide) (by omega)) this
    omega
theorem rdm_bounds {n : Nat} {e : Int} (hn : n ≠ 0) (more : Bool) : rdm n (ulp n e - e) more ≤ 9007199254740992 ∧ (-1074 < ulp n e → 4503599627370496 ≤ rdm n (ulp n e - e) more) := by
  by_cases hk : ulp n e - e ≤ 0
  · rw [rdm, if_pos hk]
    obtain ⟨h1, h2⟩ := up_bounds (e := e) hn (-(ulp n e - e)).toNat (by omega)
    exact ⟨by omega, h2⟩
  · rw [rdm, if_neg hk]
    obtain ⟨h1, h2⟩ := kept_bounds (e := e) hn (ulp n e - e).toNat (by omega) (by omega)
    have : (upw n (ulp n e - e).toNat more).toNat ≤ 1 := by cases upw n (ulp n e - e).toNat more <;> simp
    exact ⟨by omega, fun h => by have := h2 h; omega⟩
theorem rd_of {n : Nat} {e : Int} {more : Bool} {m : Nat} {u : Int} (hn : n ≠ 0) (hu : u = ulp n e) (hm : m = rdm n (u - e) more) :
    rd n e more = if m < 4503599627370496 then m else if m = 9007199254740992 then (if 2047 ≤ u + 1076 then 9218868437227405312 else (u + 1076).toNat * 4503599627370496) else (if 2047 ≤ u + 1075 then 9218868437227405312 else (u + 1075).toNat * 4503599627370496 + m - 4503599627370496) := by
  rw [rd, if_neg hn, ← hu, ← hm]
  obtain ⟨h1, h2⟩ := rdm_bounds (e := e) hn more
  rw [← hu, ← hm] at h1
  rw [← hu, ← hm] at h2
  have hul : -1074 ≤ u := by rw [hu, ulp]; omega
  by_cases c1 : m < 4503599627370496
  · rw [if_pos c1]
    have : u = -1074 := by
      rcases Int.lt_or_le (-1074) u with h | h
      · have := h2 h; omega
      · omega
    rw [this]; omega
  · rw [if_neg c1]
    by_cases c2 : m = 9007199254740992
    · rw [if_pos c2]
      by_cases c3 : 2047 ≤ u + 1076
      · rw [if_pos c3]; omega
      · rw [if_neg c3]; omega
    · rw [if_neg c2]
      by_cases c3 : 2047 ≤ u + 1075
      · rw [if_pos c3]; omega
      · rw [if_neg c3]; omega
end Go.Proofs.YtiglekomfgfilaaGreatDoor.Fl

/- Plain Lean: how the program reads a right decimal: by powers of 128 bits, by products, and exactly. -/
namespace Go.Proofs.YtiglekomfgfilaaGreatDoor.Fl
set_option linter.all false
open Go
def n331 : Nat := 331
def n310 : Nat := 310
theorem bound_small2 : 2 * 2 ^ low ≤ 10 ^ n331 := by decide +kernel
theorem bound_big2 : 4503599627370496 * 2 ^ n2046 ≤ 10 ^ n310 * 2 ^ low := by decide +kernel
theorem bits_tiny {l : Dc.Bs} {x : Int} (h : Dc.right l x = true) (hne : l ≠ []) (hp : (l.length : Int) + x < -330) : bits l x = 0 := by
  have hx := (Dc.right_exp h).1
  refine (bits_eq hx ⟨by decide, Or.inl rfl, Or.inr (Or.inl ?_)⟩).symm
  have hv := (Dc.vv_bounds h hne).2
  have hl : Dc.lift = 200000 := rfl
  obtain ⟨c, hc⟩ : ∃ c, Dc.lift = c + n331 := ⟨Dc.lift - n331, by unfold n331; omega⟩
  have h4 : n331 = 331 := rfl
  have hv2 : Dc.vv l x < 10 ^ c := Nat.lt_of_lt_of_le hv (Nat.pow_le_pow_right (by decide) (by omega))
  rw [Nat.zero_add, V_zero, V_one, Nat.zero_add, Nat.one_mul, hc, Nat.pow_add]
  have h1 : 2 * (Dc.vv l x * 2 ^ low) = Dc.vv l x * (2 * 2 ^ low) := by rw [Nat.mul_left_comm]
  rw [h1]
  exact Nat.lt_of_le_of_lt (Nat.mul_le_mul_left _ bound_small2) (Nat.mul_lt_mul_of_pos_right hv2 (Nat.pow_pos (by decide)))
theorem bits_huge {l : Dc.Bs} {x : Int} (h : Dc.right l x = true) (hne : l ≠ []) (hp : 310 < (l.length : Int) + x) : bits l x = 9218868437227405312 := by
  have hx := (Dc.right_exp h).1
  refine (bits_eq hx ⟨Nat.le_refl _, Or.inr (Or.inl ?_), Or.inl rfl⟩).symm
  have hv := (Dc.vv_bounds h hne).1
  have hl : Dc.lift = 200000 := rfl
  have h4 : n310 = 310 := rfl
  have hv2 : 10 ^ n310 * 10 ^ Dc.lift ≤ Dc.vv l x := by
    rw [← Nat.pow_add]
    exact Nat.le_trans (Nat.pow_le_pow_right (by decide) (by omega)) hv
  have hlt : V (9218868437227405312 - 1) < V 9218868437227405312 := V_lt (by decide)
  have hD : 0 < 10 ^ Dc.lift := Nat.pow_pos (by decide)
  have h1 : (V (9218868437227405312 - 1) + V 9218868437227405312) * 10 ^ Dc.lift < 2 * (V 9218868437227405312) * 10 ^ Dc.lift := Nat.mul_lt_mul_of_pos_right (by omega) hD
  refine Nat.lt_of_lt_of_le h1 ?_
  rw [Nat.mul_assoc]
  refine Nat.mul_le_mul_left _ ?_
  rw [V_inf]
  refine Nat.le_trans (Nat.mul_le_mul_right _ bound_big2) ?_
  rw [Nat.mul_right_comm]
  exact Nat.mul_le_mul_right _ hv2
theorem rd_cut {n c : Nat} {e : Int} {more : Bool} (h : 54 ≤ Na.bitLen (n / 2 ^ c)) : rd (n / 2 ^ c) (e + c) (more || decide (n % 2 ^ c ≠ 0)) = rd n e more := by
  have hlen : 54 ≤ Na.bitLen n := by
    have hc : 0 < 2 ^ c := Nat.pow_pos (by decide)
    have h0 : n / 2 ^ c ≠ 0 := by intro e0; rw [e0] at h; simp [Na.bitLen] at h
    obtain ⟨a1, -, -⟩ := bitLen_ge h0
    have h53 : 2 ^ 53 ≤ 2 ^ (Na.bitLen (n / 2 ^ c) - 1) := Nat.pow_le_pow_right (by decide) (by omega)
    have hle := Nat.div_le_self n (2 ^ c)
    rcases Nat.lt_or_ge (Na.bitLen n) 54 with h' | h'
    · obtain ⟨-, b2, -⟩ := bitLen_ge (n := n) (by omega)
      have : 2 ^ Na.bitLen n ≤ 2 ^ 53 := Nat.pow_le_pow_right (by decide) (by omega)
      omega
    · exact h'
  obtain ⟨p, q, hpq⟩ : ∃ p q : Nat, (p : Int) - q = e + 1074 := ⟨(e + 1074).toNat, (-(e + 1074)).toNat, by omega⟩
  have hq : 0 < 2 ^ q := Nat.pow_pos (by decide)
  have hp : 0 < 2 ^ p := Nat.pow_pos (by decide)
  have hD : 0 < 2 * 2 ^ q := by omega
  have hdm := Nat.div_add_mod n (2 ^ c)
  have hml := Nat.mod_lt n (show 0 < 2 ^ c from Nat.pow_pos (by decide))
  obtain ⟨N, hN⟩ : ∃ N, N = 2 * n + more.toNat := ⟨_, rfl⟩
  have key : ∀ a : Nat, a * 2 ^ p * (2 * 2 ^ q) = 2 * a * (2 ^ p * 2 ^ q) := fun a => by simp only [Nat.mul_assoc, Nat.mul_comm, Nat.mul_left_comm]
  have key2 : N * 2 ^ p * 2 ^ q = N * (2 ^ p * 2 ^ q) := Nat.mul_assoc _ _ _
  have hpp : 0 < 2 ^ p * 2 ^ q := Nat.mul_pos hp hq
  have n2 : Near (N * 2 ^ p) (2 * 2 ^ q) (rd n e more) := by
    refine rd_near hD hpq (fun _ => hlen) (fun hm => ?_) (fun hm => ?_)
    · rw [key, key2, hN, hm]; rfl
    · rw [key, key, key2, hN, hm]
      exact ⟨Nat.mul_lt_mul_of_pos_right (by show 2 * n < 2 * n + 1; omega) hpp, Nat.mul_lt_mul_of_pos_right (by show 2 * n + 1 < _; omega) hpp⟩
  have n1 : Near (N * 2 ^ p) (2 * 2 ^ q) (rd (n / 2 ^ c) (e + c) (more || decide (n % 2 ^ c ≠ 0))) := by
    have key3 : ∀ a : Nat, a * 2 ^ (p + c) * (2 * 2 ^ q) = 2 * (2 ^ c * a) * (2 ^ p * 2 ^ q) := fun a => by rw [Nat.pow_add]; simp only [Nat.mul_assoc, Nat.mul_comm, Nat.mul_left_comm]
    refine rd_near (p := p + c) (q := q) hD (by omega) (fun _ => h) (fun hm => ?_) (fun hm => ?_)
    · rw [Bool.or_eq_false_iff] at hm
      have h0 : n % 2 ^ c = 0 := by have := of_decide_eq_false hm.2; omega
      rw [key3, key2, hN, hm.1, show 2 ^ c * (n / 2 ^ c) = n by omega]; rfl
    · rw [key3, key3, key2]
      have hmore : more = true ∨ n % 2 ^ c ≠ 0 := by
        rw [Bool.or_eq_true] at hm
        exact hm.imp id of_decide_eq_true
      have hNb : 2 * n ≤ N ∧ N ≤ 2 * n + 1 ∧ (more = true → N = 2 * n + 1) := by
        rw [hN]; cases more <;> simp
      refine ⟨Nat.mul_lt_mul_of_pos_right ?_ hpp, Nat.mul_lt_mul_of_pos_right ?_ hpp⟩
      · rcases hmore with h1 | h1
        · have := hNb.2.2 h1; omega
        · omega
      · rw [Nat.mul_add, Nat.mul_one, Nat.mul_add]; omega
  exact near_eq hD hD rfl n1 n2
def tenA (x : Int) : Nat := if 0 ≤ x then 10 ^ x.toNat else 1
def tenB (x : Int) : Nat := if 0 ≤ x then 1 else 10 ^ (-x).toNat
theorem tenB_pos (x : Int) : 0 < tenB x := by
  unfold tenB; split
  · decide
  · exact Nat.pow_pos (by decide)
theorem near_ten {l : Dc.Bs} {x : Int} (hx : -100000 ≤ x) : Near (Dc.nv l * tenA x * 2 ^ low) (tenB x) (bits l x) := by
  have h := (near_scale hx).1 (bits_near l x hx)
  unfold tenA tenB
  by_cases h0 : 0 ≤ x
  · rw [if_pos h0] at h; rw [if_pos h0, if_pos h0]; exact h
  · rw [if_neg h0] at h; rw [if_neg h0, if_neg h0, Nat.mul_one]; exact h
structure Pw (x : Int) (P : Nat) (e : Int) (all : Bool) : Prop where
  sure : all = true → ∀ p q : Nat, (p : Int) - q = e → P * 2 ^ p * tenB x = tenA x * 2 ^ q
  low : ∀ p q : Nat, (p : Int) - q = e → P * 2 ^ p * tenB x ≤ tenA x * 2 ^ q
  high : ∀ p q : Nat, (p : Int) - q = e → tenA x * 2 ^ q ≤ (P + 1) * 2 ^ p * tenB x
theorem rd_self (n : Nat) (e : Int) (p q : Nat) (h : (p : Int) - q = e) : Near (n * 2 ^ (p + low)) (2 ^ q) (rd n e false) :=
  rd_near (p := p + low) (q := q) (Nat.pow_pos (by decide)) (by unfold low; omega) (fun h => by cases h) (fun _ => rfl) (fun h => by cases h)
theorem quick_near {l : Dc.Bs} {x : Int} {m P : Nat} {e : Int} {all : Bool} (hx : -100000 ≤ x) (hm : Dc.nv l = m) (hp : Pw x P e all) (h : all = true ∨ rd (P * m + m) e false = rd (P * m) e false) : rd (P * m) e false = bits l x := by
  obtain ⟨p, q, hpq⟩ : ∃ p q : Nat, (p : Int) - q = e := ⟨e.toNat, (-e).toNat, by omega⟩
  have hn := near_ten (l := l) hx
  rw [hm] at hn
  have h1 := rd_self (P * m) e p q hpq
  have h2 := rd_self (P * m + m) e p q hpq
  have hq : 0 < 2 ^ q := Nat.pow_pos (by decide)
  have k1 : ∀ N : Nat, N * m * 2 ^ (p + low) * tenB x = N * 2 ^ p * tenB x * (m * 2 ^ low) := fun N => by rw [Nat.pow_add]; simp only [Nat.mul_assoc, Nat.mul_comm, Nat.mul_left_comm]
  have k2 : m * tenA x * 2 ^ low * 2 ^ q = tenA x * 2 ^ q * (m * 2 ^ low) := by simp only [Nat.mul_assoc, Nat.mul_comm, Nat.mul_left_comm]
  rcases h with h | h
  · exact near_eq hq (tenB_pos x) (by rw [k1, k2, hp.sure h p q hpq]) h1 hn
  · have a1 := near_mono hq (tenB_pos x) (by rw [k1, k2]; exact Nat.mul_le_mul_right _ (hp.low p q hpq)) h1 hn
    have a2 := near_mono (tenB_pos x) hq (by
      rw [show P * m + m = (P + 1) * m by rw [Nat.add_mul, Nat.one_mul], k1, k2]; exact Nat.mul_le_mul_right _ (hp.high p q hpq)) hn h2
    rw [h] at a2
    omega
theorem rd_exact {N D s : Nat} (hN : N = D * 2 ^ s) (hD : D < 9007199254740992) (hs : s ≤ 900) : V (rd N 0 false) = N * 2 ^ low ∧ rd N 0 false < 9218868437227405312 := by
  have hlow : low = 1074 := rfl
  have hn := rd_self N 0 0 0 (by decide)
  rw [Nat.zero_add] at hn
  by_cases h0 : D = 0
  · rw [hN, h0, Nat.zero_mul, rd, if_pos rfl]; exact ⟨by rw [V_zero, Nat.zero_mul], by decide⟩
  · obtain ⟨t, t1, t2, t3⟩ := nat_full D (by omega) hD
    obtain ⟨-, -, -, -, p5, p6⟩ := form_parts (low - t + s) (D * 2 ^ t) (by omega) t2 t3
    have hV : V ((low - t + s) * 4503599627370496 + D * 2 ^ t) = N * 2 ^ low := by
      rw [p5, hN, Nat.mul_assoc, Nat.mul_assoc, ← Nat.pow_add, ← Nat.pow_add]; congr 2; omega
    have h1 := near_self (b := (low - t + s) * 4503599627370496 + D * 2 ^ t) (D := 1) (by omega) (by decide)
    rw [hV, Nat.mul_one] at h1
    rw [near_eq (D := 2 ^ 0) (D' := 1) (by decide) (by decide) (by rw [Nat.pow_zero]) hn h1]
    exact ⟨hV, by omega⟩
theorem parts_of {x : Nat} (hx : x < 9218868437227405312) : kind x < 3 ∧ neg x = false ∧ V x = mant x * 2 ^ (expn x + 1074).toNat := by
  have hk : kind x < 3 := by
    unfold kind
    rw [if_neg (show expo x ≠ 2047 by unfold expo; omega)]
    split
    · omega
    · split <;> omega
  have := (V_parts x hk).1
  rw [Nat.mod_eq_of_lt (by omega)] at this
  exact ⟨hk, decide_eq_false (by omega), this⟩
theorem mul_exact {x y X Y : Nat} (hx : x < 9218868437227405312) (hy : y < 9218868437227405312) (h1 : V x = X * 2 ^ low) (h2 : V y = Y * 2 ^ low) : rd (mant x * mant y) (expn x + expn y) false = rd (X * Y) 0 false := by
  obtain ⟨-, -, a⟩ := parts_of hx
  obtain ⟨-, -, b⟩ := parts_of hy
  have bx := expn_bound x
  have by' := expn_bound y
  obtain ⟨p, hp⟩ : ∃ p : Nat, p = (expn x + 1074).toNat := ⟨_, rfl⟩
  obtain ⟨q, hq⟩ : ∃ p : Nat, p = (expn y + 1074).toNat := ⟨_, rfl⟩
  rw [← hp, h1] at a
  rw [← hq, h2] at b
  have hn := rd_self (X * Y) 0 0 0 (by decide)
  rw [Nat.zero_add] at hn
  have hlow : low = 1074 := rfl
  have h3 := rd_near (X := X * Y * 2 ^ low) (D := 1) (n := mant x * mant y) (e := expn x + expn y) (more := false) (p := p + q) (q := low) (by decide) (by omega) (fun h => by cases h) (fun _ => by
    rw [Nat.mul_one, Nat.pow_add]
    have : X * Y * 2 ^ low * 2 ^ low = (X * 2 ^ low) * (Y * 2 ^ low) := by simp only [Nat.mul_assoc, Nat.mul_comm, Nat.mul_left_comm]
    rw [this, a, b]; simp only [Nat.mul_assoc, Nat.mul_comm, Nat.mul_left_comm]) (fun h => by cases h)
  exact near_eq (D := 1) (D' := 2 ^ 0) (by decide) (by decide) (by rw [Nat.pow_zero]) h3 hn
theorem ten_exact {i : Nat} (hi : i ≤ 22) : V (rd (10 ^ i) 0 false) = 10 ^ i * 2 ^ low ∧ rd (10 ^ i) 0 false < 9218868437227405312 := by
  have h5 : 5 ^ i ≤ 5 ^ 22 := Nat.pow_le_pow_right (by decide) hi
  have e : (5 : Nat) ^ 22 = 2384185791015625 := by decide
  exact rd_exact (D := 5 ^ i) (s := i) (by rw [← Nat.mul_pow]) (by omega) (by omega)
theorem nat_exact {m : Nat} (hm : m < 9007199254740992) : V (rd m 0 false) = m * 2 ^ low ∧ rd m 0 false < 9218868437227405312 :=
  rd_exact (D := m) (s := 0) (by rw [Nat.pow_zero, Nat.mul_one]) hm (by omega)
theorem ten_next {i : Nat} (hi : i < 22) : rd (mant (rd (10 ^ i) 0 false) * mant (rd 10 0 false)) (expn (rd (10 ^ i) 0 false) + expn (rd 10 0 false)) false = rd (10 ^ (i + 1)) 0 false := by
  obtain ⟨a1, a2⟩ := ten_exact (i := i) (by omega)
  obtain ⟨b1, b2⟩ := nat_exact (m := 10) (by decide)
  rw [mul_exact a2 b2 a1 b1, Nat.pow_succ]
theorem small_exact {l : Dc.Bs} {x : Nat} (hm : Dc.nv l < 9007199254740992) (hx : x ≤ 22) :
    rd (mant (rd (Dc.nv l) 0 false) * mant (rd (10 ^ x) 0 false)) (expn (rd (Dc.nv l) 0 false) + expn (rd (10 ^ x) 0 false)) false = bits l x := by
  obtain ⟨a1, a2⟩ := nat_exact hm
  obtain ⟨b1, b2⟩ := ten_exact hx
  rw [mul_exact a2 b2 a1 b1, ← bits_whole (by omega), Int.toNat_natCast]
def pwE (x : Int) : Int := if x < 0 then -((Na.bitLen (10 ^ (-x).toNat) : Int) + 127) else (Na.bitLen (10 ^ x.toNat) : Int) - 128
def pwP (x : Int) : Nat := if x < 0 then 2 ^ (Na.bitLen (10 ^ (-x).toNat) + 127) / 10 ^ (-x).toNat else if pwE x ≤ 0 then 10 ^ x.toNat * 2 ^ (-pwE x).toNat else 10 ^ x.toNat / 2 ^ (pwE x).toNat
def pwA (x : Int) : Bool := if x < 0 then false else if pwE x ≤ 0 then true else !decide (10 ^ x.toNat % 2 ^ (pwE x).toNat ≠ 0)
theorem pw (x : Int) : Pw x (pwP x) (pwE x) (pwA x) := by
  by_cases h0 : x < 0
  · obtain ⟨B, hB⟩ : ∃ B, B = 10 ^ (-x).toNat := ⟨_, rfl⟩
    have hBp : 0 < B := by rw [hB]; exact Nat.pow_pos (by decide)
    have hA : tenA x = 1 := by rw [tenA, if_neg (by omega)]
    have hBt : tenB x = B := by rw [tenB, if_neg (by omega), hB]
    obtain ⟨k, hk⟩ : ∃ k, k = Na.bitLen B + 127 := ⟨_, rfl⟩
    have hE : pwE x = -(k : Int) := by rw [pwE, if_pos h0, ← hB]; omega
    have hP : pwP x = 2 ^ k / B := by rw [pwP, if_pos h0, ← hB, ← hk]
    have hAl : pwA x = false := by rw [pwA, if_pos h0]
    rw [hE, hP, hAl]
    have hdm := Nat.div_add_mod (2 ^ k) B
    have hml := Nat.mod_lt (2 ^ k) hBp
    refine ⟨fun h => (by cases h), fun p q hpq => ?_, fun p q hpq => ?_⟩
    · have hq : q = p + k := by omega
      rw [hA, hBt, hq, Nat.one_mul, Nat.pow_add, Nat.mul_right_comm, Nat.mul_comm _ (2 ^ p)]
      exact Nat.mul_le_mul_left _ (Nat.div_mul_le_self _ _)
    · have hq : q = p + k := by omega
      rw [hA, hBt, hq, Nat.one_mul, Nat.pow_add, Nat.mul_right_comm, Nat.mul_comm _ (2 ^ p)]
      refine Nat.mul_le_mul_left _ ?_
      rw [Nat.add_mul, Nat.one_mul, Nat.mul_comm]; omega
  · obtain ⟨A, hA0⟩ : ∃ B, B = 10 ^ x.toNat := ⟨_, rfl⟩
    have hA : tenA x = A := by rw [tenA, if_pos (by omega), hA0]
    have hBt : tenB x = 1 := by rw [tenB, if_pos (by omega)]
    by_cases h1 : pwE x ≤ 0
    · obtain ⟨k, hk⟩ : ∃ k : Nat, pwE x = -(k : Int) := ⟨(-pwE x).toNat, by omega⟩
      have hP : pwP x = A * 2 ^ k := by rw [pwP, if_neg h0, if_pos h1, ← hA0, hk]; congr 2; omega
      rw [hP, hk]
      have key : ∀ p q : Nat, (p : Int) - q = -(k : Int) → A * 2 ^ k * 2 ^ p * tenB x = tenA x * 2 ^ q := fun p q hpq => by
        rw [hA, hBt, Nat.mul_one, show q = k + p by omega, Nat.pow_add, Nat.mul_assoc]
      refine ⟨fun _ p q hpq => key p q hpq, fun p q hpq => by rw [key p q hpq]; exact Nat.le_refl _, fun p q hpq => ?_⟩
      rw [← key p q hpq]
      exact Nat.mul_le_mul_right _ (Nat.mul_le_mul_right _ (Nat.le_succ _))
    · obtain ⟨k, hk⟩ : ∃ k : Nat, pwE x = (k : Int) := ⟨(pwE x).toNat, by omega⟩
      have hP : pwP x = A / 2 ^ k := by rw [pwP, if_neg h0, if_neg h1, ← hA0, hk, Int.toNat_natCast]
      have hAl : pwA x = !decide (A % 2 ^ k ≠ 0) := by rw [pwA, if_neg h0, if_neg h1, ← hA0, hk, Int.toNat_natCast]
      have hdm := Nat.div_add_mod A (2 ^ k)
      have hml := Nat.mod_lt A (show 0 < 2 ^ k from Nat.pow_pos (by decide))
      rw [hP, hk, hAl]
      refine ⟨fun h p q hpq => ?_, fun p q hpq => ?_, fun p q hpq => ?_⟩
      · have hz : A % 2 ^ k = 0 := by
          rw [Bool.not_eq_true'] at h
          have := of_decide_eq_false h; omega
        rw [hA, hBt, Nat.mul_one, show p = k + q by omega, Nat.pow_add, ← Nat.mul_assoc, Nat.mul_comm (A / 2 ^ k)]
        rw [show 2 ^ k * (A / 2 ^ k) = A by omega]
      · rw [hA, hBt, Nat.mul_one, show p = k + q by omega, Nat.pow_add, ← Nat.mul_assoc]
        exact Nat.mul_le_mul_right _ (Nat.div_mul_le_self _ _)
      · rw [hA, hBt, Nat.mul_one, show p = k + q by omega, Nat.pow_add, ← Nat.mul_assoc]
        refine Nat.mul_le_mul_right _ ?_
        rw [Nat.add_mul, Nat.one_mul, Nat.mul_comm]; omega
end Go.Proofs.YtiglekomfgfilaaGreatDoor.Fl

/- Plain Lean: numbers of two and of three words: shifts, sums, products. -/
namespace Go.Proofs.YtiglekomfgfilaaGreatDoor.Fl
set_option linter.all false
open Go
theorem pow64 {n m : Nat} (h : n + m = 64) : 2 ^ n * 2 ^ m = 18446744073709551616 := by rw [← Nat.pow_add, h]
theorem word_up {lo n m : Nat} (h : n + m = 64) : lo * 2 ^ n = lo / 2 ^ m * 18446744073709551616 + lo % 2 ^ m * 2 ^ n := by
  have e := Nat.div_add_mod lo (2 ^ m)
  have h1 : lo * 2 ^ n = (2 ^ m * (lo / 2 ^ m) + lo % 2 ^ m) * 2 ^ n := by rw [e]
  rw [h1, Nat.add_mul, ← pow64 h]
  congr 1
  simp only [Nat.mul_assoc, Nat.mul_comm, Nat.mul_left_comm]
theorem shl_words {hi lo n m : Nat} (h : n + m = 64) (hl : lo < 18446744073709551616) :
    hi * 2 ^ n % 18446744073709551616 % 2 ^ n = 0 ∧ lo / 2 ^ m < 2 ^ n ∧ hi * 2 ^ n % 18446744073709551616 + lo / 2 ^ m < 18446744073709551616 ∧
    (hi * 18446744073709551616 + lo) * 2 ^ n / 18446744073709551616 % 18446744073709551616 = hi * 2 ^ n % 18446744073709551616 + lo / 2 ^ m ∧
    (hi * 18446744073709551616 + lo) * 2 ^ n % 18446744073709551616 = lo * 2 ^ n % 18446744073709551616 := by
  have hK := pow64 h
  have p1 : 0 < 2 ^ n := Nat.pow_pos (by decide)
  have p2 : 0 < 2 ^ m := Nat.pow_pos (by decide)
  have hA : hi * 2 ^ n % 18446744073709551616 = 2 ^ n * (hi % 2 ^ m) := by rw [← hK, Nat.mul_comm hi, Nat.mul_mod_mul_left]
  have hL : lo / 2 ^ m < 2 ^ n := by rw [Nat.div_lt_iff_lt_mul p2, hK]; exact hl
  have hr := Nat.mod_lt hi p2
  have hs : hi * 2 ^ n % 18446744073709551616 + lo / 2 ^ m < 18446744073709551616 := by
    have := Nat.mul_le_mul_left (2 ^ n) (show hi % 2 ^ m + 1 ≤ 2 ^ m by omega)
    rw [Nat.mul_add, Nat.mul_one, hK] at this
    rw [hA]; omega
  have hw := word_up (lo := lo) h
  have hrem : lo % 2 ^ m * 2 ^ n < 18446744073709551616 := by
    rw [← hK, Nat.mul_comm (2 ^ n)]; exact Nat.mul_lt_mul_of_pos_right (Nat.mod_lt _ p2) p1
  obtain ⟨X, hX⟩ : ∃ X, X = hi * 2 ^ n := ⟨_, rfl⟩
  obtain ⟨Y, hY⟩ : ∃ Y, Y = lo * 2 ^ n := ⟨_, rfl⟩
  obtain ⟨R, hR⟩ : ∃ R, R = lo % 2 ^ m * 2 ^ n := ⟨_, rfl⟩
  obtain ⟨L, hLe⟩ : ∃ L, L = lo / 2 ^ m := ⟨_, rfl⟩
  have e1 : (hi * 18446744073709551616 + lo) * 2 ^ n = X * 18446744073709551616 + Y := by
    rw [hX, hY, Nat.add_mul, Nat.mul_right_comm]
  refine ⟨by rw [hA, Nat.mul_mod_right], hL, hs, ?_, ?_⟩
  · rw [e1, ← hX, ← hLe]
    rw [← hX, ← hLe] at hs
    rw [← hY, ← hLe, ← hR] at hw
    rw [← hR] at hrem
    omega
  · rw [e1, ← hY]; omega
theorem or_words {A L n : Nat} (h0 : A % 2 ^ n = 0) (hL : L < 2 ^ n) (h : A + L < 18446744073709551616) : Go.bits BinOp.or IntKind.u64 (A : Int) (L : Int) = ((A + L : Nat) : Int) := by
  rw [bits_or_u64_nat A L (by omega) (by omega)]
  congr 1
  have e : A = 2 ^ n * (A / 2 ^ n) := by have := Nat.div_add_mod A (2 ^ n); omega
  rw [e]
  exact (Nat.two_pow_add_eq_or_of_lt hL (A / 2 ^ n)).symm
theorem or_words' {A L n : Nat} (h0 : A % 2 ^ n = 0) (hL : L < 2 ^ n) (h : A + L < 18446744073709551616) : Go.bits BinOp.or IntKind.u64 (L : Int) (A : Int) = ((A + L : Nat) : Int) := by
  rw [bits_or_u64_nat L A (by omega) (by omega), Nat.or_comm]
  have := or_words h0 hL h
  rw [bits_or_u64_nat A L (by omega) (by omega)] at this
  exact this
theorem shr_word {x y n m : Nat} (h : n + m = 64) (hx : x < 18446744073709551616) :
    (y * 2 ^ m % 18446744073709551616) % 2 ^ m = 0 ∧ x / 2 ^ n < 2 ^ m ∧ y * 2 ^ m % 18446744073709551616 + x / 2 ^ n < 18446744073709551616 ∧
    (y * 18446744073709551616 + x) / 2 ^ n % 18446744073709551616 = y * 2 ^ m % 18446744073709551616 + x / 2 ^ n := by
  have hK := pow64 h
  have p1 : 0 < 2 ^ n := Nat.pow_pos (by decide)
  have p2 : 0 < 2 ^ m := Nat.pow_pos (by decide)
  obtain ⟨a1, a2, a3, -, -⟩ := shl_words (hi := y) (lo := x) (n := m) (m := n) (by omega) hx
  refine ⟨a1, a2, a3, ?_⟩
  have e : (y * 18446744073709551616 + x) / 2 ^ n = y * 2 ^ m + x / 2 ^ n := by
    rw [← hK, show y * (2 ^ n * 2 ^ m) + x = 2 ^ n * (y * 2 ^ m) + x by rw [Nat.mul_left_comm], Nat.mul_add_div p1]
  rw [e]
  obtain ⟨X, hX⟩ : ∃ X, X = y * 2 ^ m := ⟨_, rfl⟩
  obtain ⟨L, hLe⟩ : ∃ L, L = x / 2 ^ n := ⟨_, rfl⟩
  rw [← hX, ← hLe] at a3 ⊢
  omega
def w3 (h m l : Nat) : Nat := (h * 18446744073709551616 + m) * 18446744073709551616 + l
theorem w3_shr {h m l n k : Nat} (hnk : n + k = 64) (hl : l < 18446744073709551616) (hm : m < 18446744073709551616) (hh : h < 18446744073709551616) :
    w3 h m l / 2 ^ n = w3 (h / 2 ^ n) (h * 2 ^ k % 18446744073709551616 + m / 2 ^ n) (m * 2 ^ k % 18446744073709551616 + l / 2 ^ n) ∧ w3 h m l % 2 ^ n = l % 2 ^ n := by
  have hK := pow64 hnk
  have p1 : 0 < 2 ^ n := Nat.pow_pos (by decide)
  obtain ⟨a1, a2, a3, -⟩ := shr_word (x := l) (y := m) hnk hl
  obtain ⟨b1, b2, b3, -⟩ := shr_word (x := m) (y := h) hnk hm
  have wm := word_up (lo := m) (n := k) (m := n) (by omega)
  have wh := word_up (lo := h) (n := k) (m := n) (by omega)
  have rm : m % 2 ^ n * 2 ^ k < 18446744073709551616 := by
    rw [← hK]; exact Nat.mul_lt_mul_of_pos_right (Nat.mod_lt _ p1) (Nat.pow_pos (by decide))
  have rh : h % 2 ^ n * 2 ^ k < 18446744073709551616 := by
    rw [← hK]; exact Nat.mul_lt_mul_of_pos_right (Nat.mod_lt _ p1) (Nat.pow_pos (by decide))
  have e0 : w3 h m l = 2 ^ n * ((h * 18446744073709551616 + m) * 2 ^ k) + l := by
    unfold w3
    rw [Nat.mul_comm (2 ^ n), Nat.mul_assoc, Nat.mul_comm (2 ^ k), hK]
  constructor
  · rw [e0, Nat.mul_add_div p1, Nat.add_mul, Nat.mul_right_comm]
    unfold w3
    obtain ⟨M, hM⟩ : ∃ M, M = m * 2 ^ k := ⟨_, rfl⟩
    obtain ⟨H, hH⟩ : ∃ M, M = h * 2 ^ k := ⟨_, rfl⟩
    obtain ⟨RM, hRM⟩ : ∃ M, M = m % 2 ^ n * 2 ^ k := ⟨_, rfl⟩
    obtain ⟨RH, hRH⟩ : ∃ M, M = h % 2 ^ n * 2 ^ k := ⟨_, rfl⟩
    obtain ⟨A, hA⟩ : ∃ M, M = m / 2 ^ n := ⟨_, rfl⟩
    obtain ⟨B, hB⟩ : ∃ M, M = h / 2 ^ n := ⟨_, rfl⟩
    obtain ⟨C, hC⟩ : ∃ M, M = l / 2 ^ n := ⟨_, rfl⟩
    rw [← hM, ← hA, ← hRM] at wm
    rw [← hH, ← hB, ← hRH] at wh
    rw [← hRM] at rm
    rw [← hRH] at rh
    rw [← hM, ← hH, ← hA, ← hB, ← hC]
    omega
  · rw [e0, Nat.mul_add_mod]
theorem w3_word (h m l : Nat) (hl : l < 18446744073709551616) : w3 h m l / 18446744073709551616 = w3 0 h m ∧ w3 h m l % 18446744073709551616 = l := by
  unfold w3; omega
theorem low_mask {l n : Nat} (hl : l < 18446744073709551616) (hn : n < 64) : Go.bits BinOp.and IntKind.u64 (l : Int) (((2 ^ n - 1 : Nat) : Int)) = ((l % 2 ^ n : Nat) : Int) := by
  have h1 : 2 ^ n ≤ 2 ^ 63 := Nat.pow_le_pow_right (by decide) (by omega)
  rw [bits_and_u64_nat l _ hl (by omega), Nat.and_two_pow_sub_one_eq_mod]
theorem times_words {hi lo b : Nat} (hh : hi < 18446744073709551616) (hl : lo < 18446744073709551616) (hb : b < 18446744073709551616) :
    hi * b / 18446744073709551616 + (lo * b / 18446744073709551616 + hi * b % 18446744073709551616) / 18446744073709551616 < 18446744073709551616 ∧
    (hi * 18446744073709551616 + lo) * b = w3 (hi * b / 18446744073709551616 + (lo * b / 18446744073709551616 + hi * b % 18446744073709551616) / 18446744073709551616) ((lo * b / 18446744073709551616 + hi * b % 18446744073709551616) % 18446744073709551616) (lo * b % 18446744073709551616) := by
  have h1 : hi * b ≤ 18446744073709551615 * 18446744073709551615 := Nat.mul_le_mul (by omega) (by omega)
  have h2 : lo * b ≤ 18446744073709551615 * 18446744073709551615 := Nat.mul_le_mul (by omega) (by omega)
  have e : (hi * 18446744073709551616 + lo) * b = hi * b * 18446744073709551616 + lo * b := by rw [Nat.add_mul, Nat.mul_right_comm]
  rw [e]
  unfold w3
  obtain ⟨X, hX⟩ : ∃ X, X = hi * b := ⟨_, rfl⟩
  obtain ⟨Y, hY⟩ : ∃ X, X = lo * b := ⟨_, rfl⟩
  rw [← hX] at h1 ⊢
  rw [← hY] at h2 ⊢
  constructor <;> omega
theorem bitLen_of {n L : Nat} (h1 : 2 ^ L ≤ n) (h2 : n < 2 ^ (L + 1)) : Na.bitLen n = L + 1 := by
  have hp : 0 < 2 ^ L := Nat.pow_pos (by decide)
  obtain ⟨b1, b2, b3⟩ := bitLen_ge (n := n) (by omega)
  have d1 : L < Na.bitLen n := by
    rcases Nat.lt_or_ge L (Na.bitLen n) with h | h
    · exact h
    · have := Nat.pow_le_pow_right (show 0 < 2 by decide) h; omega
  have d2 : Na.bitLen n ≤ L + 1 := by
    rcases Nat.lt_or_ge (L + 1) (Na.bitLen n) with h | h
    · have := Nat.pow_le_pow_right (show 0 < 2 by decide) (show L + 1 ≤ Na.bitLen n - 1 by omega); omega
    · exact h
  omega
theorem len_shift {hi lo k : Nat} (hh : hi ≠ 0) (hl : lo < 2 ^ k) : Na.bitLen (hi * 2 ^ k + lo) = k + Na.bitLen hi := by
  obtain ⟨a1, a2, a3⟩ := bitLen_ge hh
  obtain ⟨L, hL⟩ : ∃ L, Na.bitLen hi = L + 1 := ⟨Na.bitLen hi - 1, by omega⟩
  rw [hL, Nat.add_sub_cancel] at a1
  rw [hL] at a2
  have h1 := Nat.mul_le_mul_right (2 ^ k) a1
  have h2 := Nat.mul_le_mul_right (2 ^ k) (show hi + 1 ≤ 2 ^ (L + 1) from a2)
  rw [Nat.add_mul, Nat.one_mul] at h2
  rw [← Nat.pow_add] at h1 h2
  rw [bitLen_of (n := hi * 2 ^ k + lo) (L := L + k) (by omega) (by rw [show L + k + 1 = L + 1 + k by omega]; omega), hL]
  omega
theorem len_words {hi lo : Nat} (hh : hi ≠ 0) (hl : lo < 18446744073709551616) : Na.bitLen (hi * 18446744073709551616 + lo) = 64 + Na.bitLen hi :=
  len_shift (k := 64) hh hl
end Go.Proofs.YtiglekomfgfilaaGreatDoor.Fl
