/- The reference: bits from a place on, bits below a place. -/
import Derived.Test.YtiglekomfgfilaaGreatDoorX19
import Derived.Test.YtiglekomfgfilaaGreatDoorX8
import Derived.Deep.RegionWith
import Derived.Test.YtiglekomfgfilaaGreatDoorX14
namespace Go.Proofs.YtiglekomfgfilaaGreatDoor
set_option maxRecDepth 100000
set_option maxHeartbeats 2000000
set_option linter.all false
open Go.RowKit
theorem Fl.bits_step (A n k : Nat) (b : Bool) (h : Na.bit A (n + k) = b) (t : Nat) : A / 2 ^ (n + k) % 2 ^ (t + 1) = 2 * (A / 2 ^ (n + k + 1) % 2 ^ t) + b.toNat := by
  have h1 : A / 2 ^ (n + k) = 2 * (A / 2 ^ (n + k + 1)) + b.toNat := by
    rw [Nat.pow_succ, ← Nat.div_div_eq_div_mul]
    rw [Na.bit] at h
    have h1 := Nat.div_add_mod (A / 2 ^ (n + k)) 2
    cases b with
    | true => have := of_decide_eq_true h; show _ = _ + 1; omega
    | false => have h2 := of_decide_eq_false h; have := Nat.mod_lt (A / 2 ^ (n + k)) (show 0 < 2 by decide); show _ = _ + 0; omega
  rw [h1]
  obtain ⟨q, hq⟩ : ∃ q, q = A / 2 ^ (n + k + 1) := ⟨_, rfl⟩
  rw [← hq]
  have hb : b.toNat ≤ 1 := by cases b <;> decide
  have hp : 0 < 2 ^ t := Nat.pow_pos (by decide)
  have h2 := Nat.div_add_mod q (2 ^ t)
  have h3 := Nat.mod_lt q hp
  have h4 : 2 * q + b.toNat = 2 ^ (t + 1) * (q / 2 ^ t) + (2 * (q % 2 ^ t) + b.toNat) := by
    rw [Nat.pow_succ, Nat.mul_comm (2 ^ t) 2, Nat.mul_assoc]; omega
  rw [h4, Nat.mul_add_mod]
  exact Nat.mod_eq_of_lt (by rw [Nat.pow_succ]; omega)
theorem Fl.low_step (A i : Nat) (h0 : A % 2 ^ i = 0) (hb : Na.bit A i = false) : A % 2 ^ (i + 1) = 0 := by
  rw [Na.bit] at hb
  have h2 := of_decide_eq_false hb
  have h3 := Nat.div_add_mod A (2 ^ i)
  rw [h0, Nat.add_zero] at h3
  have h4 : A / 2 ^ i = 2 * (A / 2 ^ i / 2) := by omega
  rw [Nat.pow_succ, ← h3, h4, ← Nat.mul_assoc]
  exact Nat.mul_mod_right _ _
theorem Fl.low_some (A i n : Nat) (hb : Na.bit A i = true) (hi : i < n) : A % 2 ^ n ≠ 0 := by
  intro h
  rw [Na.bit] at hb
  have hb := of_decide_eq_true hb
  obtain ⟨c, hc⟩ := Nat.dvd_of_mod_eq_zero h
  obtain ⟨d, rfl⟩ : ∃ d, n = i + (d + 1) := ⟨n - i - 1, by omega⟩
  rw [hc, Nat.pow_add, Nat.mul_assoc, Nat.mul_div_cancel_left _ (Nat.pow_pos (by decide)), Nat.pow_succ, Nat.mul_comm (2 ^ d) 2, Nat.mul_assoc, Nat.mul_mod_right] at hb
  omega
def fromLoop (A n : Nat) (vv iv : Value) : Prop := ∃ k v : Nat, k ≤ 64 ∧ iv = .int .i64 ((k : Int) - 1) ∧ vv = .int .u64 v ∧ Hid (v = A / 2 ^ (n + k) % 2 ^ (64 - k))
theorem r3_from_any (a : Option Addr) (c : Nat) (l : List Nat) (n : Nat) (w : World) (h : Sl w a c l) (hl : l.length ≤ 20000) (hn : n ≤ 1000000) :
    Calls Tryz.prog 80 #[.slice a l.length c, .int .i64 n] w (Ret0 (.int .u64 (Na.val l / 2 ^ n % 18446744073709551616 : Nat)) w) := by
  have HB := Lib.hid (fun i (hi : i ≤ 100000000) => r1_bit_any a c l i w h (by omega) hi)
  obtain ⟨A, hA⟩ : ∃ A, A = Na.val l := ⟨_, rfl⟩
  rw [← hA] at HB ⊢
  obtain ⟨ll, hll⟩ : ∃ z, l.length = z := ⟨_, rfl⟩
  rw [hll] at HB ⊢
  obtain ⟨R, hR⟩ : ∃ R, R = A / 2 ^ n % 18446744073709551616 := ⟨_, rfl⟩
  have HR := Lib.hid hR
  rw [← hR]
  clear hA h hll hl hR
  go_enter Tryz.func80, Tryz.ntmps80
  go_wp2_with fail
  go_loop [5, 6] (fromLoop A n) (fun _ i => (intOf i + 1).toNat)
  case atStart => exact ⟨64, 0, Nat.le_refl _, rfl, rfl, Lib.hid (by rw [Nat.sub_self, Nat.pow_zero, Nat.mod_one])⟩
  case round =>
    obtain ⟨k, v, hk, rfl, rfl, HV⟩ := hrel
    cases k with
    | zero =>
      have hv := HV.out
      rw [Nat.add_zero, Nat.sub_zero] at hv
      obtain rfl : v = R := by rw [HR.out]; exact hv
      clear hv
      go_wp2_with fail
      go_ret
      exact Ret0.of rfl
    | succ j =>
      have hji : (((j + 1 : Nat) : Int) - 1) = (j : Int) := by omega
      rw [hji]
      have hv63 : v < 9223372036854775808 := by
        have h1 : v < 2 ^ (64 - (j + 1)) := by rw [HV.out]; exact Nat.mod_lt _ (Nat.pow_pos (by decide))
        exact Nat.lt_of_lt_of_le h1 (Nat.pow_le_pow_right (n := 2) (j := 63) (by decide) (by omega))
      obtain ⟨b, hb⟩ : ∃ b, b = Na.bit A (n + j) := ⟨_, rfl⟩
      have hbit := HB.out (n + j) (by omega)
      rw [← hb, show ((n + j : Nat) : Int) = (n : Int) + (j : Int) by omega] at hbit
      have HBT := Lib.hid hbit
      have hst := Fl.bits_step A n j b hb.symm (64 - (j + 1))
      rw [show n + j + 1 = n + (j + 1) by omega, ← HV.out, show 64 - (j + 1) + 1 = 64 - j by omega] at hst
      have HST := Lib.hid hst
      clear hst hbit hb
      cases b with
      | false =>
        go_wp2_with (go_at_call 81; (with_reducible refine (HBT.out).mono ?_); rintro e w' ⟨rfl, rfl⟩)
        go_round
        case rel => exact ⟨j, 2 * v, by omega, rfl, by go_num, Lib.hid HST.out.symm⟩
        case measure => simp [intOf]
      | true =>
        go_wp2_with (go_at_call 81; (with_reducible refine (HBT.out).mono ?_); rintro e w' ⟨rfl, rfl⟩)
        go_round
        case rel => exact ⟨j, 2 * v + 1, by omega, rfl, by go_num, Lib.hid HST.out.symm⟩
        case measure => simp [intOf]
theorem r3_low_any (a : Option Addr) (c : Nat) (l : List Nat) (n : Nat) (w : World) (h : Sl w a c l) (hl : l.length ≤ 20000) (hn : n ≤ 1000000) :
    Calls Tryz.prog 82 #[.slice a l.length c, .int .i64 n] w (Ret0 (.bool (decide (Na.val l % 2 ^ n ≠ 0))) w) := by
  have HB := Lib.hid (fun i (hi : i ≤ 100000000) => r1_bit_any a c l i w h (by omega) hi)
  have hAl := Na.val_lt l h.ok
  rw [show Na.B ^ l.length = 2 ^ (32 * l.length) by rw [Nat.pow_mul]] at hAl
  obtain ⟨A, hA⟩ : ∃ A, A = Na.val l := ⟨_, rfl⟩
  rw [← hA] at HB hAl ⊢
  obtain ⟨ll, hll⟩ : ∃ z, l.length = z := ⟨_, rfl⟩
  rw [hll] at HB hAl hl ⊢
  have HAL := Lib.hid hAl
  obtain ⟨R, hR⟩ : ∃ R, R = decide (A % 2 ^ n ≠ 0) := ⟨_, rfl⟩
  have HR := Lib.hid hR
  rw [← hR]
  clear hA h hll hAl hR
  go_enter Tryz.func82, Tryz.ntmps82
  go_wp2_with fail
  go_loop [5] (fun i => ∃ k : Nat, k ≤ n ∧ i = .int .i64 k ∧ A % 2 ^ k = 0) (fun i => n - (intOf i).toNat)
  case atStart => exact ⟨0, Nat.zero_le _, rfl, by rw [Nat.pow_zero, Nat.mod_one]⟩
  case round =>
    obtain ⟨k, hk, rfl, hz⟩ := hrel
    have HZ := Lib.hid hz; clear hz
    by_cases hlt : k < n
    · by_cases hlt2 : k < 32 * ll
      · obtain ⟨b, hb⟩ : ∃ b, b = Na.bit A k := ⟨_, rfl⟩
        have hbit := HB.out k (by omega)
        rw [← hb] at hbit
        have HBT := Lib.hid hbit
        have hlt2i : (k : Int) < 32 * (ll : Int) := by omega
        cases b with
        | false =>
          have HS := Lib.hid (Fl.low_step A k HZ.out hb.symm)
          clear hb hbit hlt2
          go_wp2_with (go_at_call 81; (with_reducible refine (HBT.out).mono ?_); rintro e w' ⟨rfl, rfl⟩)
          go_round
          case rel => exact ⟨k + 1, by omega, by go_num, HS.out⟩
          case measure => simp [intOf]; omega
        | true =>
          obtain rfl : R = true := by rw [HR.out]; exact decide_eq_true (Fl.low_some A k n hb.symm hlt)
          clear hb hbit hlt2
          go_wp2_with (go_at_call 81; (with_reducible refine (HBT.out).mono ?_); rintro e w' ⟨rfl, rfl⟩)
          go_ret
          exact Ret0.of rfl
      · have hk2 : ¬ (k : Int) < 32 * (ll : Int) := by omega
        have hA0 : A = 0 := by
          have h1 : A < 2 ^ k := Nat.lt_of_lt_of_le HAL.out (Nat.pow_le_pow_right (by decide) (by omega))
          have := HZ.out
          rwa [Nat.mod_eq_of_lt h1] at this
        obtain rfl : R = false := by rw [HR.out, hA0, Nat.zero_mod]; rfl
        clear hA0 hlt2
        go_wp2_with fail
        go_ret
        exact Ret0.of rfl
    · obtain rfl : k = n := by omega
      obtain rfl : R = false := by rw [HR.out, HZ.out]; rfl
      go_wp2_with fail
      go_ret
      exact Ret0.of rfl
end Go.Proofs.YtiglekomfgfilaaGreatDoor

/- The reference: a number rounded to a binary64. -/
namespace Go.Proofs.YtiglekomfgfilaaGreatDoor
set_option maxRecDepth 100000
set_option maxHeartbeats 8000000
set_option linter.all false
open Go.RowKit
theorem Fl.upw_half {n k : Nat} {more half rest : Bool} (hh : half = Na.bit n (k - 1)) (hr : rest = decide (n % 2 ^ (k - 1) ≠ 0)) : Fl.upw n k more = (half && (rest || more || decide (n / 2 ^ k % 2 = 1))) := by
  rw [Fl.upw, hh, hr, Na.bit]
theorem Fl.lt2 {q : Nat} (h : q < 9007199254740992) : q < Na.B ^ 2 := by
  rw [Nat.pow_two, show Na.B = 4294967296 from rfl]; omega
theorem r3_from_zero (a : Option Addr) (c q : Nat) (w : World) (h : Sl w a c (Na.limbs q)) (hq : q < 9007199254740992) :
    Calls Tryz.prog 80 #[.slice a (Na.limbs q).length c, .int .i64 0] w (Ret0 (.int .u64 (q : Int)) w) := by
  have h2 := Na.limbs_len_le q 2 (Fl.lt2 hq)
  have := r3_from_any a c (Na.limbs q) 0 w h (by omega) (by omega)
  rw [Na.val_limbs, Nat.pow_zero, Nat.div_one, Nat.mod_eq_of_lt (by omega)] at this
  exact this
theorem r3_from_small (a : Option Addr) (c n k ln : Nat) (w : World) (h : Sl w a c (Na.limbs n)) (hl : (Na.limbs n).length = ln) (hln : ln ≤ 20000) (hk : k ≤ 1000000) (hq : n / 2 ^ k < 9007199254740992) :
    Calls Tryz.prog 80 #[.slice a ln c, .int .i64 k] w (Ret0 (.int .u64 ((n / 2 ^ k : Nat) : Int)) w) := by
  subst hl
  have := r3_from_any a c (Na.limbs n) k w h hln hk
  rw [Na.val_limbs, Nat.mod_eq_of_lt (show n / 2 ^ k < 18446744073709551616 by omega)] at this
  exact this
theorem r3_round_zero (neg : Bool) (a : Option Addr) (c : Nat) (e : Int) (more : Bool) (w : World) (h : Sl w a c (Na.limbs 0)) (hz : a = none → c = 0) :
    Calls Tryz.prog 49 #[.bool neg, .slice a (Na.limbs 0).length c, .int .i64 e, .bool more] w (RetB (.int .u64 ((if neg then 9223372036854775808 else 0 : Nat) : Int)) w) := by
  have hl := r1_len_any a c (Na.limbs 0) w h hz (by rw [Na.limbs_zero]; simp)
  rw [Na.val_limbs, show Na.bitLen 0 = 0 from rfl] at hl
  have HL := Lib.hid (show Calls Tryz.prog 52 #[.slice a (Na.limbs 0).length c] w (RetB (.int .i64 0) w) from hl)
  obtain ⟨l0, hl0⟩ : ∃ z, z = (Na.limbs 0).length := ⟨_, rfl⟩
  rw [← hl0] at HL ⊢
  clear h hz hl hl0
  cases neg with
  | false =>
    go_enter Tryz.func49, Tryz.ntmps49
    go_wp2_with (go_at_call 52; (with_reducible refine (HL.out).mono ?_); rintro e w1 ⟨rfl, hb1⟩)
    go_ret
    exact RetB.of rfl hb1
  | true =>
    go_enter Tryz.func49, Tryz.ntmps49
    go_wp2_with (go_at_call 52; (with_reducible refine (HL.out).mono ?_); rintro e w1 ⟨rfl, hb1⟩)
    go_ret
    exact RetB.of rfl hb1
theorem r3_round_pos (neg : Bool) (a : Option Addr) (c n : Nat) (e : Int) (more : Bool) (w : World) (h : Sl w a c (Na.limbs n)) (hz : a = none → c = 0) (hl : (Na.limbs n).length ≤ 5000) (he : -50000 ≤ e ∧ e ≤ 2000) (hn : n ≠ 0) :
    Calls Tryz.prog 49 #[.bool neg, .slice a (Na.limbs n).length c, .int .i64 e, .bool more] w (RetB (.int .u64 (((if neg then 9223372036854775808 else 0) + Fl.rd n e more : Nat) : Int)) w) := by
  have hlen := r1_len_any a c (Na.limbs n) w h hz (by omega)
  rw [Na.val_limbs] at hlen
  obtain ⟨bl1, bl2, bl3⟩ := Fl.bitLen_ge hn
  have hbl : Na.bitLen n ≤ 160000 := by
    have h1 := Na.val_lt (Na.limbs n) (Na.ok_limbs n)
    rw [Na.val_limbs, show Na.B ^ (Na.limbs n).length = 2 ^ (32 * (Na.limbs n).length) by rw [Nat.pow_mul]] at h1
    have := Na.bitLen_le' h1
    omega
  have hu : Fl.ulp n e = max (e + (Na.bitLen n : Int) - 53) (-1074) := rfl
  have hrd := fun m u (h1 : u = Fl.ulp n e) (h2 : m = Fl.rdm n (u - e) more) => Fl.rd_of (more := more) hn h1 h2
  have hkb := fun k hk hk0 => Fl.kept_bounds (e := e) hn k hk hk0
  have hub := fun t ht => Fl.up_bounds (e := e) hn t ht
  have hrb := Fl.rdm_bounds (e := e) hn more
  obtain ⟨L, hL⟩ : ∃ L, L = Na.bitLen n := ⟨_, rfl⟩
  obtain ⟨u, hu'⟩ : ∃ u, u = Fl.ulp n e := ⟨_, rfl⟩
  rw [← hL] at hlen hbl hu bl3
  rw [← hu'] at hu hkb hub hrb
  have hrd' := hrd (Fl.rdm n (u - e) more) u hu' rfl
  obtain ⟨M, hM⟩ : ∃ M, M = Fl.rdm n (u - e) more := ⟨_, rfl⟩
  rw [← hM] at hrd' hrb
  obtain ⟨D, hD⟩ : ∃ D, D = Fl.rd n e more := ⟨_, rfl⟩
  rw [← hD] at hrd' ⊢
  have hul : -1074 ≤ u := by omega
  have huh : u ≤ 170000 := by omega
  have HN := Lib.hid hlen
  have HS := Lib.hid h; have HZ := Lib.hid hz
  have HRD := Lib.hid hrd'; have HKB := Lib.hid hkb; have HUB := Lib.hid hub; have HRB := Lib.hid hrb; have HM := Lib.hid hM
  obtain ⟨S, hS⟩ : ∃ S : Nat, S = if neg then 9223372036854775808 else 0 := ⟨_, rfl⟩
  have hS2 : S = 0 ∨ S = 9223372036854775808 := by rw [hS]; cases neg <;> simp
  rw [← hS]
  obtain ⟨ln, hln⟩ : ∃ z, (Na.limbs n).length = z := ⟨_, rfl⟩
  have HLN := Lib.hid hln
  rw [hln] at HN hl ⊢
  obtain ⟨e1, e2⟩ := he
  have hL0 : ((L : Int) == 0) = false := by simp only [beq_eq_false_iff_ne, ne_eq]; omega
  have he3 : decide (e < -100000) = false := decide_eq_false (by omega)
  have hmax : e + (L : Int) - 53 < -1074 ∧ u = -1074 ∨ ¬ e + (L : Int) - 53 < -1074 ∧ u = e + (L : Int) - 53 := by omega
  have HMAX := Lib.hid hmax
  have HSV := Lib.hid hS
  clear h hz hlen bl1 bl2 bl3 hrd hkb hub hrb hrd' hM hD hu' hL hln hu hmax hS
  go_enter Tryz.func49, Tryz.ntmps49
  go_upto_if 16 with (fail)
  go_cut [9] (fun sv w' => sv = .int .u64 S ∧ w' = w)
  case first =>
    cases neg with
    | false =>
      have hS0 : S = 0 := HSV.out
      subst hS0
      go_wp2
      go_meet
      exact ⟨rfl, rfl⟩
    | true =>
      have hS0 : S = 9223372036854775808 := HSV.out
      subst hS0
      go_wp2
      go_meet
      exact ⟨rfl, rfl⟩
  case rest => as_aux_lemma =>
    obtain ⟨rfl, hw⟩ := hcut
    rw [hw]
    clear HSV hw
    go_upto_if 41 with (go_at_call 52; (with_reducible refine (HN.out).mono ?_); rintro e' w1 ⟨rfl, hb1⟩)
    go_cut [11] (fun uv w' => uv = .int .i64 u ∧ w' = w1)
    case first =>
      rcases HMAX.out with ⟨h1, h2⟩ | ⟨h1, h2⟩
      · have H2 := Lib.hid h2
        clear h2
        go_wp2
        go_meet
        exact ⟨by rw [H2.out], rfl⟩
      · have H2 := Lib.hid h2
        clear h2
        go_wp2
        go_meet
        exact ⟨by rw [H2.out], rfl⟩
    case rest => as_aux_lemma =>
      obtain ⟨rfl, hw⟩ := hcut
      rw [hw]
      clear HMAX HN hw
      go_upto_if 44 with (fail)
      go_cut [12] (fun mv w' => mv = .int .u64 M ∧ Hid (Below w.heap.size w w'))
      case first =>
        clear HRD HRB
        by_cases hk : u ≤ e
        · obtain ⟨t, ht⟩ : ∃ t : Nat, t = (e - u).toNat := ⟨_, rfl⟩
          have hti : e - u = (t : Int) := by omega
          obtain ⟨k1, -⟩ := HUB.out t (by omega)
          have hup := r3_up_any a c (Na.limbs n) t w1 (HS.out.on hb1) HZ.out (by rw [HLN.out]; omega) (by omega)
          rw [Na.val_limbs, HLN.out] at hup
          have HMM := Lib.hid (show n * 2 ^ t = M by rw [HM.out, Fl.rdm, if_pos (by omega), show (-(u - e)).toNat = t by omega])
          obtain ⟨q, hq⟩ : ∃ q, q = n * 2 ^ t := ⟨_, rfl⟩
          rw [← hq] at hup HMM k1
          have HUP := Lib.hid hup
          have HFR := Lib.hid (fun w2 a2 c2 (s2 : Sl w2 a2 c2 (Na.limbs q)) => r3_from_zero a2 c2 q w2 s2 k1)
          obtain rfl : q = M := HMM.out
          clear hup ht hq
          go_wp2_with (first
            | (go_at_call 54; (with_reducible refine (HUP.out).mono ?_); rintro e' w2 ⟨a2, c2, rfl, s2, z2, -, hb2⟩)
            | (go_at_call 80; (with_reducible refine (HFR.out _ _ _ s2).mono ?_); rintro e w' ⟨rfl, rfl⟩))
          go_meet
          exact ⟨rfl, Lib.hid (hb1.trans (hb2.mono hb1.size))⟩
        · obtain ⟨k, hkk⟩ : ∃ k : Nat, k = (u - e).toNat := ⟨_, rfl⟩
          have hki : u - e = (k : Int) := by omega
          have hk0 : 0 < k := by omega
          obtain ⟨k1, -⟩ := HKB.out k (by omega) hk0
          obtain ⟨j, hj⟩ : ∃ j, j = k - 1 := ⟨_, rfl⟩
          have hji : (k : Int) - 1 = (j : Int) := by omega
          have hsw : Sl w1 a c (Na.limbs n) := HS.out.on hb1
          have hln20 : (Na.limbs n).length ≤ 20000 := by rw [HLN.out]; omega
          have hfr := r3_from_small a c n k ln w1 hsw HLN.out (by omega) (by omega) k1
          have hbt := r1_bit_any a c (Na.limbs n) j w1 hsw (by omega) (by omega)
          have hlw := r3_low_any a c (Na.limbs n) j w1 hsw hln20 (by omega)
          rw [Na.val_limbs, HLN.out] at hbt hlw
          obtain ⟨half, hh⟩ : ∃ b, b = Na.bit n j := ⟨_, rfl⟩
          obtain ⟨rest, hr⟩ : ∃ b, b = decide (n % 2 ^ j ≠ 0) := ⟨_, rfl⟩
          obtain ⟨q, hq⟩ : ∃ q, q = n / 2 ^ k := ⟨_, rfl⟩
          have hM2 : M = q + (half && (rest || more || decide (q % 2 = 1))).toNat := by
            rw [HM.out, Fl.rdm, if_neg (by omega), ← hkk, Fl.upw_half (half := half) (rest := rest) (by rw [hh, hj]) (by rw [hr, hj]), ← hq]
          rw [← hh] at hbt
          rw [← hr] at hlw
          rw [← hq] at hfr k1
          have HFR := Lib.hid hfr; have HBT := Lib.hid hbt; have HLW := Lib.hid hlw
          have HM2 := Lib.hid hM2
          have hqm : q % 2 = 1 ∨ q % 2 = 0 := by omega
          clear hkk hj hsw hln20 hfr hbt hlw hh hr hq hM2
          cases half with
          | false =>
            obtain rfl : M = q := HM2.out
            go_wp2_with (first | (go_at_call 80; (with_reducible refine (HFR.out).mono ?_); rintro e w' ⟨rfl, rfl⟩) | (go_at_call 81; (with_reducible refine (HBT.out).mono ?_); rintro e w' ⟨rfl, rfl⟩) | (go_at_call 82; (with_reducible refine (HLW.out).mono ?_); rintro e w' ⟨rfl, rfl⟩))
            all_goals (go_meet; exact ⟨rfl, Lib.hid hb1⟩)
          | true =>
            by_cases hrm : rest = true ∨ more = true
            · have hM3 : M = q + 1 := by
                have := HM2.out
                rcases hrm with h | h
                · rw [h] at this; simpa using this
                · rw [h] at this; simpa using this
              subst hM3
              rcases hrm with h | h
              · subst h
                go_wp2_with (first | (go_at_call 80; (with_reducible refine (HFR.out).mono ?_); rintro e w' ⟨rfl, rfl⟩) | (go_at_call 81; (with_reducible refine (HBT.out).mono ?_); rintro e w' ⟨rfl, rfl⟩) | (go_at_call 82; (with_reducible refine (HLW.out).mono ?_); rintro e w' ⟨rfl, rfl⟩))
                all_goals (go_meet; exact ⟨by first | rfl | go_num, Lib.hid hb1⟩)
              · subst h
                cases rest
                all_goals (
                  go_wp2_with (first | (go_at_call 80; (with_reducible refine (HFR.out).mono ?_); rintro e w' ⟨rfl, rfl⟩) | (go_at_call 81; (with_reducible refine (HBT.out).mono ?_); rintro e w' ⟨rfl, rfl⟩) | (go_at_call 82; (with_reducible refine (HLW.out).mono ?_); rintro e w' ⟨rfl, rfl⟩))
                  all_goals (go_meet; exact ⟨by first | rfl | go_num, Lib.hid hb1⟩))
            · have hr0 : rest = false := Bool.eq_false_iff.mpr (fun h => hrm (Or.inl h))
              have hm0 : more = false := Bool.eq_false_iff.mpr (fun h => hrm (Or.inr h))
              subst hr0 hm0
              clear hrm
              rcases hqm with hq1 | hq0
              · have hM3 : M = q + 1 := by have := HM2.out; rw [decide_eq_true hq1] at this; simpa using this
                subst hM3
                have hqi : (q : Int) % 2 = 1 := by omega
                clear hq1
                go_wp2_with (first | (go_at_call 80; (with_reducible refine (HFR.out).mono ?_); rintro e w' ⟨rfl, rfl⟩) | (go_at_call 81; (with_reducible refine (HBT.out).mono ?_); rintro e w' ⟨rfl, rfl⟩) | (go_at_call 82; (with_reducible refine (HLW.out).mono ?_); rintro e w' ⟨rfl, rfl⟩))
                all_goals (go_meet; exact ⟨by first | rfl | go_num, Lib.hid hb1⟩)
              · have hM3 : M = q := by have := HM2.out; rw [decide_eq_false (by omega)] at this; simpa using this
                subst hM3
                have hqi : (M : Int) % 2 = 0 := by omega
                clear hq0
                go_wp2_with (first | (go_at_call 80; (with_reducible refine (HFR.out).mono ?_); rintro e w' ⟨rfl, rfl⟩) | (go_at_call 81; (with_reducible refine (HBT.out).mono ?_); rintro e w' ⟨rfl, rfl⟩) | (go_at_call 82; (with_reducible refine (HLW.out).mono ?_); rintro e w' ⟨rfl, rfl⟩))
                all_goals (go_meet; exact ⟨rfl, Lib.hid hb1⟩)
      case rest => as_aux_lemma =>
        obtain ⟨rfl, HB⟩ := hcut
        obtain ⟨r1, r2⟩ := HRB.out
        have hD := HRD.out
        have hB := HB.out
        clear HKB HUB HM HRB HRD HS HZ HLN HB
        have hSb : S ≤ 9223372036854775808 := by omega
        have hM53 : M ≤ 9007199254740992 := r1
        clear hS2 r1 r2
        by_cases c1 : M < 4503599627370496
        · rw [if_pos c1] at hD
          have n1 : ((M : Int) == 9007199254740992) = false := by simp only [beq_eq_false_iff_ne, ne_eq]; omega
          have n2 : decide ((M : Int) < 4503599627370496) = true := decide_eq_true (by omega)
          subst hD
          go_wp2
          refine bodyPost_ret (v := .int .u64 ((S + D : Nat) : Int)) (by simp [results, Tryz.results49, go_sem] <;> omega) rfl (RetB.of rfl hB)
        · rw [if_neg c1] at hD
          by_cases c2 : M = 9007199254740992
          · rw [if_pos c2] at hD
            by_cases c3 : 2047 ≤ u + 1076
            · rw [if_pos c3] at hD
              subst hD c2
              have c4 : 2047 ≤ u + 1 + 1075 := by omega
              go_wp2
              refine bodyPost_ret (v := .int .u64 ((S + 9218868437227405312 : Nat) : Int)) (by simp [results, Tryz.results49, go_sem] <;> omega) rfl (RetB.of rfl hB)
            · rw [if_neg c3] at hD
              subst c2
              have c4 : ¬ 2047 ≤ u + 1 + 1075 := by omega
              obtain ⟨z, hz⟩ : ∃ z : Nat, u + 1 + 1075 = (z : Int) := ⟨(u + 1076).toNat, by omega⟩
              have hz1 : z < 2047 := by omega
              have hzD : D = z * 4503599627370496 := by rw [hD]; congr 1; omega
              obtain ⟨Z, hZ⟩ : ∃ Z, Z = z * 4503599627370496 := ⟨_, rfl⟩
              have hZi : (z : Int) * 4503599627370496 = (Z : Int) := by omega
              have hZl : Z ≤ 9214364837600034816 := by omega
              rw [← hZ] at hzD
              subst hzD
              clear hD hZ
              go_wp2
              refine bodyPost_ret (v := .int .u64 ((S + D : Nat) : Int)) (by simp [results, Tryz.results49, go_sem] <;> omega) rfl (RetB.of rfl hB)
          · rw [if_neg c2] at hD
            have n1 : ((M : Int) == 9007199254740992) = false := by simp only [beq_eq_false_iff_ne, ne_eq]; omega
            have n2 : decide ((M : Int) < 4503599627370496) = false := decide_eq_false (by omega)
            by_cases c3 : 2047 ≤ u + 1075
            · rw [if_pos c3] at hD
              subst hD
              go_wp2
              refine bodyPost_ret (v := .int .u64 ((S + 9218868437227405312 : Nat) : Int)) (by simp [results, Tryz.results49, go_sem] <;> omega) rfl (RetB.of rfl hB)
            · rw [if_neg c3] at hD
              obtain ⟨z, hz⟩ : ∃ z : Nat, u + 1075 = (z : Int) := ⟨(u + 1075).toNat, by omega⟩
              have hz1 : z < 2047 := by omega
              have hz3 : (u + 1075).toNat = z := by omega
              rw [hz3] at hD
              obtain ⟨Z, hZ⟩ : ∃ Z, Z = z * 4503599627370496 := ⟨_, rfl⟩
              have hZi : (z : Int) * 4503599627370496 = (Z : Int) := by omega
              have hZl : Z ≤ 9214364837600034816 := by omega
              rw [← hZ] at hD
              obtain ⟨X1, hX1⟩ : ∃ X1, X1 = S + Z := ⟨_, rfl⟩
              have hX1i : (S : Int) + (Z : Int) = (X1 : Int) := by omega
              obtain ⟨X, hX⟩ : ∃ X, X = X1 + M := ⟨_, rfl⟩
              have hXi : (X1 : Int) + (M : Int) = (X : Int) := by omega
              obtain ⟨Y, hY⟩ : ∃ Y, Y = S + D := ⟨_, rfl⟩
              have hYi : (X : Int) - 4503599627370496 = (Y : Int) := by omega
              have b1 : X1 < 18446744073709551616 := by omega
              have b2 : X < 18446744073709551616 := by omega
              have b3 : Y < 18446744073709551616 := by omega
              have HY := Lib.hid hY
              have c5 : decide (2047 ≤ (z : Int)) = false := decide_eq_false (by omega)
              clear hZ hz3 hD hM53 c1 c2 c3 hX1 hX hY hSb
              go_wp2
              refine bodyPost_ret (v := .int .u64 (Y : Int)) (by simp [results, Tryz.results49, go_sem]) rfl (RetB.of (by rw [HY.out]) hB)
theorem r3_round_any (neg : Bool) (a : Option Addr) (c n : Nat) (e : Int) (more : Bool) (w : World) (h : Sl w a c (Na.limbs n)) (hz : a = none → c = 0) (hl : (Na.limbs n).length ≤ 5000) (he : -50000 ≤ e ∧ e ≤ 2000) :
    Calls Tryz.prog 49 #[.bool neg, .slice a (Na.limbs n).length c, .int .i64 e, .bool more] w (RetB (.int .u64 (((if neg then 9223372036854775808 else 0) + Fl.rd n e more : Nat) : Int)) w) := by
  by_cases hn : n = 0
  · subst hn
    rw [Fl.rd, if_pos rfl, Nat.add_zero]
    exact r3_round_zero neg a c e more w h hz
  · exact r3_round_pos neg a c n e more w h hz hl he hn
end Go.Proofs.YtiglekomfgfilaaGreatDoor

/- The reference: ten to a power; the natural that digits say. -/
namespace Go.Proofs.YtiglekomfgfilaaGreatDoor
set_option maxRecDepth 100000
set_option maxHeartbeats 4000000
set_option linter.all false
open Go.RowKit
theorem r8_ten_any (n : Nat) (w : World) (hn : n ≤ 50000) : Calls Tryz.prog 51 #[.int .i64 n] w (GivesZ (Na.limbs (10 ^ n)) w) := by
  have HB := Lib.hid ((Below.refl w.heap.size w).alloc (Nat.le_refl _) (Obj.cells #[Value.int IntKind.u32 1] 81))
  have HS0 := Lib.hid (lit_one' w); have HR0 := Lib.hid (lit_one_row w)
  go_enter Tryz.func51, Tryz.ntmps51
  go_wp2_with fail
  go_loopw [3, 4] (fivesLoop 10 n w) (fun _ i _ => n - (intOf i).toNat)
  case atStart => exact ⟨0, some ⟨w.heap.size, 0, none⟩, 1, Nat.zero_le _, rfl, by simp [Na.limbs_one], by simp [Na.limbs_one], by simpa [Na.limbs_one] using HS0, Lib.hid (fun e => by cases e), by simpa [Na.limbs_one] using HR0, HB⟩
  case round =>
    clear HB HS0 HR0
    obtain ⟨k, a, c, hk, rfl, rfl, hlen, HSl, HZ, HR, HBe⟩ := hrel
    obtain ⟨x, hx⟩ : ∃ x, x = 10 ^ k := ⟨_, rfl⟩
    rw [← hx] at hlen HSl HR ⊢
    have HX := Lib.hid hx
    clear hx
    by_cases hlt : k < n
    · have hSL := lit_sl wr 10 (by decide)
      have hSA : Sl (wr.alloc (.cells #[Value.int .u32 10] 81)) a c (Na.limbs x) := HSl.out.on ((Below.refl _ _).alloc (Nat.le_refl _) _)
      have htm := r1_times_any a c (Na.limbs x) _ _ [10] _ hSA hSL (by omega) (by simp)
      rw [Na.val_limbs, show Na.val [10] = 10 by simp [Na.val], HX.out, ← Nat.pow_succ, ← HX.out] at htm
      have HTM := Lib.hid (show Calls Tryz.prog 50 #[.slice a (Na.limbs x).length c, .slice (some ⟨wr.heap.size, 0, none⟩) 1 1] (wr.alloc (.cells #[Value.int .u32 10] 81)) (GivesZ (Na.limbs (10 ^ (k + 1))) (wr.alloc (.cells #[Value.int .u32 10] 81))) from htm)
      have HBA := Lib.hid (HBe.out.alloc HBe.out.size (.cells #[Value.int .u32 10] 81))
      have hl2 : (Na.limbs (10 ^ (k + 1))).length ≤ k + 1 + 1 := by
        have h1 := Na.val_lt (Na.limbs x) (Na.ok_limbs _)
        rw [Na.val_limbs] at h1
        have h3 : (Na.limbs (10 ^ (k + 1))).length ≤ (Na.limbs x).length + 1 := by rw [Nat.pow_succ, ← HX.out]; exact Na.len_prod h1 (show 10 < Na.B ^ 1 by decide)
        omega
      clear htm hSL hSA
      go_wp2_with (first | (go_at_call 50; (with_reducible refine (HTM.out).mono ?_); rintro e w1 ⟨a1, c1, rfl, s1, z1, r1, hb1⟩; have hB1 := HBA.out.trans (hb1.mono HBA.out.size)))
      go_roundw
      case rel => exact ⟨k + 1, a1, c1, by omega, by go_num, rfl, hl2, Lib.hid s1, Lib.hid z1, Lib.hid (r1.mono HBA.out.size), Lib.hid hB1⟩
      case measure => simp [intOf]; omega
    · obtain rfl : k = n := by omega
      go_wp2_with fail
      go_ret
      rw [← HX.out]
      exact ⟨a, c, rfl, HSl.out, HZ.out, HR.out, HBe.out⟩
def GivesU (l : List Nat) (w : World) (e : Ending) (w' : World) : Prop := ∃ a c, e = .returned (.slice a l.length c) ∧ Sl w' a c l ∧ (a = none → c = 0) ∧ Below w.heap.size w w'
theorem Sl.drewn {w : World} {a : Option Addr} {c : Nat} {l : List Nat} (h : Sl w a c l) : Sl w.drew a c l := h.on ((Below.refl _ _).drew)
theorem lit_ten8 (w : World) : Sl (w.alloc (Obj.cells #[Value.int IntKind.u32 10] 81)) (some ⟨w.heap.size, 0, none⟩) 1 [10] := lit_sl w 10 (by decide)
def digsLoop (s : ByteArray) (w : World) (xv iv : Value) (wr : World) : Prop := ∃ (k x : Nat) (a : Option Addr) (c : Nat), k ≤ s.size ∧ iv = .int .i64 k ∧ xv = .slice a (Na.limbs x).length c ∧ Hid (x = Dc.nv (s.data.toList.take k)) ∧ (Na.limbs x).length ≤ k ∧ Hid (Sl wr a c (Na.limbs x)) ∧ Hid (a = none → c = 0) ∧ Hid (Below w.heap.size w wr)
theorem Dc.nv_take (s : ByteArray) (k : Nat) (h : k < s.size) : Dc.nv (s.data.toList.take (k + 1)) = Dc.nv (s.data.toList.take k) * 10 + (s[k].toNat - 48) := by
  rw [List.take_add_one, bs_getElem? s k h]
  show Dc.nv (_ ++ [s[k]]) = _
  rw [Dc.nv_app, Dc.nv_cons, Dc.nv_nil]
  simp
theorem Na.len_tens {x k : Nat} (h : x < 10 ^ k) : (Na.limbs x).length ≤ k :=
  Na.limbs_len_le x k (Nat.lt_of_lt_of_le h (Nat.pow_le_pow_left (by decide) k))
theorem r8_digits_any (s : ByteArray) (w : World) (hs : s.size ≤ 10000) (hd : Dc.allDig s.data.toList = true) : Calls Tryz.prog 48 #[.string s] w (GivesU (Na.limbs (Dc.nv s.data.toList)) w) := by
  have HD := Lib.hid hd
  clear hd
  have HB0 := Lib.hid ((Below.refl w.heap.size w).alloc (Nat.le_refl _) (Obj.cells #[] 81))
  have hs0 : Sl (w.alloc (Obj.cells #[] 81)) (some ⟨w.heap.size, 0, none⟩) 0 (Na.limbs 0) := by
    rw [Na.limbs_zero]; exact Sl.nil _ _ _
  have HS0 := Lib.hid hs0
  clear hs0
  go_enter Tryz.func48, Tryz.ntmps48
  go_wp2_with fail
  go_loopw [3, 4] (digsLoop s w) (fun _ i _ => s.size - (intOf i).toNat)
  case atStart => exact ⟨0, 0, some ⟨w.heap.size, 0, none⟩, 0, Nat.zero_le _, rfl, by rw [Na.limbs_zero]; rfl, Lib.hid rfl, by rw [Na.limbs_zero]; simp, HS0, Lib.hid (fun e => by cases e), HB0⟩
  case round =>
    clear HB0 HS0
    obtain ⟨k, x, a, c, hk, rfl, rfl, HX, hlen, HSl, HZ, HBe⟩ := hrel
    have hszw := HBe.out.size
    by_cases hlt : k < s.size
    · obtain ⟨hd1, hd2⟩ := Dc.dig_mem HD.out (List.mem_of_getElem? (bs_getElem? s k hlt))
      obtain ⟨d, hd⟩ : ∃ d, d = s[k].toNat - 48 := ⟨_, rfl⟩
      have hdi : (s[k].toNat : Int) - 48 = (d : Int) := by omega
      have hd9 : d ≤ 9 := by omega
      have hw1 : IntKind.u8.wrap (d : Int) = (d : Int) := by rw [IntKind.wrap_u8]; omega
      have hw2 : IntKind.u32.wrap (d : Int) = (d : Int) := by rw [IntKind.wrap_u32]; omega
      have hdl : d < 4294967296 := by omega
      obtain ⟨y, hy⟩ : ∃ y, y = x * 10 + d := ⟨_, rfl⟩
      have hyn : y = Dc.nv (s.data.toList.take (k + 1)) := by rw [Dc.nv_take s k hlt, ← HX.out, hy, hd]
      have hly : (Na.limbs y).length ≤ k + 1 := by
        refine Na.len_tens ?_
        rw [hyn]
        have := Dc.nv_lt (l := s.data.toList.take (k + 1)) (by
          have h := HD.out
          rw [← List.take_append_drop (k + 1) s.data.toList, Dc.allDig, List.all_append, Bool.and_eq_true] at h
          exact h.1)
        rwa [List.length_take, bs_length, Nat.min_eq_left (by omega)] at this
      have HY := Lib.hid hyn
      have htm := fun wr a2 c2 (h1 : Sl wr a c (Na.limbs x)) (h2 : Sl wr a2 c2 [10]) => r1_times_any a c (Na.limbs x) a2 c2 [10] wr h1 h2 (by omega) (by simp)
      rw [Na.val_limbs, show Na.val [10] = 10 by simp [Na.val]] at htm
      have hlx : (Na.limbs (x * 10)).length ≤ 10001 := by
        have h1 := Na.val_lt (Na.limbs x) (Na.ok_limbs _)
        rw [Na.val_limbs] at h1
        have h3 := Na.len_prod h1 (show 10 < Na.B ^ 1 by decide)
        omega
      have hpl := fun wr a1 c1 a2 c2 (h1 : Sl wr a1 c1 (Na.limbs (x * 10))) (h2 : Sl wr a2 c2 [d]) => r1_plus_any a1 c1 (Na.limbs (x * 10)) a2 c2 [d] wr h1 h2 (by omega) (by simp)
      rw [Na.val_limbs, show Na.val [d] = d by simp [Na.val], ← hy] at hpl
      have HTM := Lib.hid (show ∀ wr a2 c2, Sl wr a c (Na.limbs x) → Sl wr a2 c2 [10] → Calls Tryz.prog 50 #[.slice a (Na.limbs x).length c, .slice a2 1 c2] wr (GivesZ (Na.limbs (x * 10)) wr) from htm)
      have HPL := Lib.hid (show ∀ wr a1 c1 a2 c2, Sl wr a1 c1 (Na.limbs (x * 10)) → Sl wr a2 c2 [d] → Calls Tryz.prog 79 #[.slice a1 (Na.limbs (x * 10)).length c1, .slice a2 1 c2] wr (GivesZ (Na.limbs y) wr) from hpl)
      clear htm hpl hlx hy hd hyn
      go_upto_region 6 with (fail)
      go_region_with (first
        | (go_at_call 50; (with_reducible refine (HTM.out _ _ _ ?_ ?_).mono ?_); exact HSl.out.on (by (repeat (first | exact Below.refl _ _ | assumption | refine Below.setCell ?_ (by first | omega | (simp <;> omega)) _ | refine Below.alloc ?_ (by first | omega | (simp <;> omega)) _ | refine Below.drew ?_ | refine below_drewN' ?_ _))); (first | exact (lit_ten8 _).drewn | (have h := (lit_ten8 (wr.alloc (Obj.cells #[Value.int IntKind.u32 (d : Int)] 81))).drewn; rw [World.size_alloc] at h; exact h) | exact ((lit_ten8 _).on ((Below.refl _ _).alloc (Nat.le_refl _) _)).drewn); rintro e w1 ⟨a1, c1, rfl, s1, z1, -, hb1⟩; have hB1 : Below w.heap.size w w1 := Below.trans (by have hbe := HBe.out; (repeat (first | exact Below.refl _ _ | assumption | refine Below.setCell ?_ (by first | omega | (simp <;> omega)) _ | refine Below.alloc ?_ (by first | omega | (simp <;> omega)) _ | refine Below.drew ?_ | refine below_drewN' ?_ _))) (hb1.mono (by (try simp only [size_drew', World.size_alloc]); omega)))
        | (go_at_call 79; (with_reducible refine (HPL.out _ _ _ _ _ ?_ ?_).mono ?_); (first | exact s1 | exact s1.on ((Below.refl _ _).alloc (Nat.le_refl _) _)); (first | exact lit_sl _ d hdl | (have h := ((lit_sl (wr.alloc (Obj.cells #[Value.int IntKind.u32 10] 81)) d hdl).drewn).on hb1; rw [World.size_alloc] at h; exact h) | exact ((lit_sl _ d hdl).drewn).on hb1 | exact (((lit_sl _ d hdl).on ((Below.refl _ _).alloc (Nat.le_refl _) _)).drewn).on hb1); rintro e w2 ⟨a2, c2, rfl, s2, z2, -, hb2⟩; have hB2 : Below w.heap.size w w2 := Below.trans (by have hsz1 := hB1.size; (repeat (first | exact Below.refl _ _ | assumption | refine Below.setCell ?_ (by first | omega | (simp <;> omega)) _ | refine Below.alloc ?_ (by first | omega | (simp <;> omega)) _ | refine Below.drew ?_ | refine below_drewN' ?_ _))) (hb2.mono (by have := hB1.size; (try simp only [World.size_alloc]); omega))))
      all_goals go_wp2_with fail
      all_goals (
        go_roundw
        case rel => exact ⟨k + 1, y, a2, c2, by omega, by go_num, rfl, HY, hly, Lib.hid s2, Lib.hid z2, Lib.hid hB2⟩
        case measure => simp [intOf]; omega)
    · obtain rfl : k = s.size := by omega
      have hx : x = Dc.nv s.data.toList := by have := HX.out; rwa [List.take_of_length_le (by rw [bs_length]; exact Nat.le_refl _)] at this
      subst hx
      go_wp2_with fail
      go_ret
      exact ⟨a, c, rfl, HSl.out, HZ.out, HBe.out⟩
end Go.Proofs.YtiglekomfgfilaaGreatDoor

/- The reference: a right decimal's bits. -/
namespace Go.Proofs.YtiglekomfgfilaaGreatDoor
set_option maxRecDepth 100000
set_option maxHeartbeats 4000000
set_option linter.all false
open Go.RowKit
def DecB (W : World) (b : Nat) (n : Bool) (s : ByteArray) (x : Int) : Prop := W.cell? ⟨b, 0, none⟩ = some (.bool n) ∧ W.cell? ⟨b, 1, none⟩ = some (.string s) ∧ W.cell? ⟨b, 2, none⟩ = some (.int .i64 x) ∧ b < W.heap.size
theorem DecB.new (w : World) (n : Bool) (s : ByteArray) (x : Int) : DecB (w.alloc (Obj.cells #[Value.bool n, Value.string s, Value.int IntKind.i64 x] 27)) w.heap.size n s x :=
  ⟨by simp [go_sem], by simp [go_sem], by simp [go_sem], by simp⟩
theorem DecB.on {W W' : World} {b : Nat} {n : Bool} {s : ByteArray} {x : Int} (h : DecB W b n s x) (hb : Below W.heap.size W W') : DecB W' b n s x := by
  obtain ⟨h0, h1, h2, hl⟩ := h
  exact ⟨(hb.cell (p := ⟨b, 0, none⟩) hl).trans h0, (hb.cell (p := ⟨b, 1, none⟩) hl).trans h1, (hb.cell (p := ⟨b, 2, none⟩) hl).trans h2, Nat.lt_of_lt_of_le hl hb.size⟩
theorem r8_with_any (b : Bool) (v : Nat) (w : World) (hv : v < 9223372036854775808) : Calls Tryz.prog 47 #[.bool b, .int .u64 v] w (Ret0 (.int .u64 ((Fl.wsign b + v : Nat) : Int)) w) := by
  cases b with
  | false =>
    go_enter Tryz.func47, Tryz.ntmps47
    go_wp2
    refine bodyPost_ret (v := .int .u64 (v : Int)) (by simp [results, Tryz.results47, go_sem]) rfl ⟨by simp [Fl.wsign], rfl⟩
  | true =>
    go_enter Tryz.func47, Tryz.ntmps47
    go_wp2
    refine bodyPost_ret (v := .int .u64 ((v : Int) + 9223372036854775808)) (by simp [results, Tryz.results47, go_sem] <;> omega) rfl ⟨by rw [Fl.wsign, if_pos rfl, Int.natCast_add, Int.add_comm]; rfl, rfl⟩
theorem Na.ten_le (j : Nat) : 10 ^ j ≤ 2 ^ (4 * j) := by rw [Nat.pow_mul]; exact Nat.pow_le_pow_left (by decide) j
theorem Na.len_ten_pow (j : Nat) : Na.bitLen (10 ^ j) ≤ 4 * j + 1 :=
  Na.bitLen_le' (Nat.lt_of_le_of_lt (Na.ten_le j) (Nat.pow_lt_pow_right (by decide) (by omega)))
theorem Na.limbs_of_bits {v m : Nat} (h : v < 2 ^ (32 * m)) : (Na.limbs v).length ≤ m :=
  Na.limbs_len_le v m (by rwa [show Na.B ^ m = 2 ^ (32 * m) by rw [Nat.pow_mul]])
theorem Na.ten_lt (v j : Nat) (h : v < 10 ^ j) : v < 2 ^ (4 * j) := Nat.lt_of_lt_of_le h (by rw [Nat.pow_mul]; exact Nat.pow_le_pow_left (by decide) j)
theorem r8_point_facts {s : ByteArray} {x : Int} (hr : Dc.right s.data.toList x = true) : Dc.point s.data.toList x = (s.size : Int) + x ∧ s.size ≤ 1100 ∧ -100000 ≤ x ∧ x ≤ 100000 := by
  have h1 := Dc.right_len hr; have h2 := Dc.right_exp hr
  rw [bs_length] at h1
  exact ⟨by rw [Dc.point_eq, if_pos hr], h1, h2⟩
theorem r8_bits_end (n : Bool) (s : ByteArray) (x : Int) (w : World) (hr : Dc.right s.data.toList x = true) (hend : s.size = 0 ∨ (s.size : Int) + x < -400 ∨ 400 < (s.size : Int) + x) :
    Calls Tryz.prog 21 #[.agg #[.bool n, .string s, .int .i64 x]] w (RetB (.int .u64 ((Fl.wsign n + Fl.bits s.data.toList x : Nat) : Int)) w) := by
  obtain ⟨hp, hs, hx1, hx2⟩ := r8_point_facts hr
  have hP := fun w => r7_point_any n s x w (by omega)
  rw [hp] at hP
  have hb0 : Below w.heap.size w (w.alloc (Obj.cells #[Value.bool n, Value.string s, Value.int IntKind.i64 x] 27)) := (Below.refl _ _).alloc (Nat.le_refl _) _
  have dd0 := DecB.new w n s x
  have hw0 : ∀ w, Calls Tryz.prog 47 #[.bool n, .int .u64 0] w (Ret0 (.int .u64 ((Fl.wsign n + 0 : Nat) : Int)) w) := fun w => r8_with_any n 0 w (by omega)
  have hwi : ∀ w, Calls Tryz.prog 47 #[.bool n, .int .u64 9218868437227405312] w (Ret0 (.int .u64 ((Fl.wsign n + 9218868437227405312 : Nat) : Int)) w) := fun w => r8_with_any n 9218868437227405312 w (by omega)
  obtain ⟨Z, hZ⟩ : ∃ Z, Z = Fl.wsign n + Fl.bits s.data.toList x := ⟨_, rfl⟩
  rw [← hZ]
  have HP := Lib.hid hP
  by_cases h0 : s.size = 0
  · have hl : s.data.toList = [] := List.eq_nil_of_length_eq_zero (by rw [bs_length]; exact h0)
    have hx0 : x = 0 := by rw [hl] at hr; simpa [Dc.right] using hr
    have hb : Fl.bits s.data.toList x = 0 := by rw [hl, hx0]; exact Fl.bits_nil
    rw [hb] at hZ; rw [← hZ] at hw0
    have HW0 := Lib.hid hw0
    have hz : ((s.size : Int) == 0) = true := by simp only [beq_iff_eq]; omega
    clear hl hx0 hb hr hend hP hw0 hwi hp hZ
    go_enter Tryz.func21, Tryz.ntmps21
    go_wp2_with (first
      | (go_at_call 46; (with_reducible refine (HP.out _).mono ?_); rintro e w1 ⟨rfl, hb1⟩; have hB1 : Below w.heap.size w w1 := hb0.trans (hb1.mono (by simp)); obtain ⟨y0, y1, y2, yl⟩ := dd0.on hb1)
      | (go_at_call 47; (with_reducible refine (HW0.out _).mono ?_); rintro e w' ⟨rfl, rfl⟩))
    go_ret
    exact RetB.of rfl hB1
  · have hz : ((s.size : Int) == 0) = false := by simp only [beq_eq_false_iff_ne, ne_eq]; omega
    have hne : s.data.toList ≠ [] := fun e => h0 (by have := congrArg List.length e; rwa [bs_length] at this)
    obtain ⟨P, hPe⟩ : ∃ P, P = (s.size : Int) + x := ⟨_, rfl⟩
    rw [← hPe] at HP hend
    by_cases hm : P < -400
    · have hb : Fl.bits s.data.toList x = 0 := Fl.bits_small hr hne (by rw [bs_length]; omega)
      rw [hb] at hZ; rw [← hZ] at hw0
      have HW0 := Lib.hid hw0
      clear hne hb hr hend hP hw0 hwi hp hZ hPe h0
      go_enter Tryz.func21, Tryz.ntmps21
      go_wp2_with (first
        | (go_at_call 46; (with_reducible refine (HP.out _).mono ?_); rintro e w1 ⟨rfl, hb1⟩; have hB1 : Below w.heap.size w w1 := hb0.trans (hb1.mono (by simp)); obtain ⟨y0, y1, y2, yl⟩ := dd0.on hb1)
        | (go_at_call 47; (with_reducible refine (HW0.out _).mono ?_); rintro e w' ⟨rfl, rfl⟩))
      go_ret
      exact RetB.of rfl hB1
    · have hm2 : 400 < P := by omega
      have hb : Fl.bits s.data.toList x = 9218868437227405312 := Fl.bits_big hr hne (by rw [bs_length]; omega)
      rw [hb] at hZ; rw [← hZ] at hwi
      have HWI := Lib.hid hwi
      clear hne hb hr hend hP hw0 hwi hp hZ hPe h0
      go_enter Tryz.func21, Tryz.ntmps21
      go_wp2_with (first
        | (go_at_call 46; (with_reducible refine (HP.out _).mono ?_); rintro e w1 ⟨rfl, hb1⟩; have hB1 : Below w.heap.size w w1 := hb0.trans (hb1.mono (by simp)); obtain ⟨y0, y1, y2, yl⟩ := dd0.on hb1)
        | (go_at_call 47; (with_reducible refine (HWI.out _).mono ?_); rintro e w' ⟨rfl, rfl⟩))
      go_ret
      exact RetB.of rfl hB1
end Go.Proofs.YtiglekomfgfilaaGreatDoor

/- The reference: a right decimal's bits, the two long ways. -/
namespace Go.Proofs.YtiglekomfgfilaaGreatDoor
set_option maxRecDepth 100000
set_option maxHeartbeats 4000000
set_option linter.all false
open Go.RowKit
theorem DecB.drewn {W : World} {b : Nat} {n : Bool} {s : ByteArray} {x : Int} (h : DecB W b n s x) : DecB W.drew b n s x := h.on ((Below.refl _ _).drew)
theorem r8_bits_whole (n : Bool) (s : ByteArray) (X : Nat) (w : World) (hr : Dc.right s.data.toList X = true) (h0 : s.size ≠ 0) (hend : (s.size : Int) + X ≤ 400) :
    Calls Tryz.prog 21 #[.agg #[.bool n, .string s, .int .i64 X]] w (RetB (.int .u64 ((Fl.wsign n + Fl.bits s.data.toList X : Nat) : Int)) w) := by
  obtain ⟨hp, hs, hx1, hx2⟩ := r8_point_facts hr
  have hP := fun w => r7_point_any n s X w (by omega)
  rw [hp] at hP
  have hb0 : Below w.heap.size w (w.alloc (Obj.cells #[Value.bool n, Value.string s, Value.int IntKind.i64 X] 27)) := (Below.refl _ _).alloc (Nat.le_refl _) _
  have dd0 := DecB.new w n s X
  have hdig := Dc.right_dig hr
  have hD := fun w => r8_digits_any s w (by omega) hdig
  have hN := Dc.nv_lt hdig
  rw [bs_length] at hN
  have hbits := Fl.bits_whole (l := s.data.toList) (x := (X : Int)) (by omega)
  rw [Int.toNat_natCast] at hbits
  obtain ⟨N, hNe⟩ : ∃ N, N = Dc.nv s.data.toList := ⟨_, rfl⟩
  rw [← hNe] at hD hN hbits
  have hl1 : (Na.limbs N).length ≤ 400 := by have := Na.len_tens hN; omega
  have hT := fun w => r8_ten_any X w (by omega)
  obtain ⟨T, hTe⟩ : ∃ T, T = 10 ^ X := ⟨_, rfl⟩
  rw [← hTe] at hT hbits
  have hl2 : (Na.limbs T).length ≤ 401 := by have := Na.len_tens (x := T) (k := X + 1) (by rw [hTe]; exact Nat.pow_lt_pow_right (by decide) (by omega)); omega
  have hM := fun wr a1 c1 a2 c2 (s1 : Sl wr a1 c1 (Na.limbs N)) (s2 : Sl wr a2 c2 (Na.limbs T)) => r1_times_any a1 c1 (Na.limbs N) a2 c2 (Na.limbs T) wr s1 s2 (by omega) (by omega)
  rw [Na.val_limbs, Na.val_limbs] at hM
  have hl3 : (Na.limbs (N * T)).length ≤ 5000 := by
    have h1 := Na.val_lt (Na.limbs N) (Na.ok_limbs N)
    have h2 := Na.val_lt (Na.limbs T) (Na.ok_limbs T)
    rw [Na.val_limbs] at h1 h2
    have h3 := Na.len_prod h1 h2
    omega
  obtain ⟨M, hMe⟩ : ∃ M, M = N * T := ⟨_, rfl⟩
  rw [← hMe] at hM hbits hl3
  have hR := fun wr a c (sl : Sl wr a c (Na.limbs M)) (z : a = none → c = 0) => r3_round_any n a c M 0 false wr sl z hl3 (by omega)
  obtain ⟨Z, hZ⟩ : ∃ Z, Z = Fl.wsign n + Fl.bits s.data.toList X := ⟨_, rfl⟩
  have hR2 : ∀ wr a c, Sl wr a c (Na.limbs M) → (a = none → c = 0) → Calls Tryz.prog 49 #[.bool n, .slice a (Na.limbs M).length c, .int .i64 0, .bool false] wr (RetB (.int .u64 (Z : Int)) wr) := fun wr a c sl z => by
    rw [hZ, ← hbits]; exact hR wr a c sl z
  rw [← hZ]
  obtain ⟨P, hPe⟩ : ∃ P, P = (s.size : Int) + X := ⟨_, rfl⟩
  rw [← hPe] at hP hend
  have hPm : decide (P < -400) = false := decide_eq_false (by omega)
  have hPm2 : decide (400 < P) = false := decide_eq_false (by omega)
  have hz : ((s.size : Int) == 0) = false := by simp only [beq_eq_false_iff_ne, ne_eq]; omega
  have HP := Lib.hid hP; have HDG := Lib.hid hD; have HT := Lib.hid hT; have HM := Lib.hid hM; have HR := Lib.hid hR2
  clear hr h0 hend hP hp hPe hZ hR hR2 hM hMe hl3 hl2 hl1 hT hTe hD hNe hN hbits hdig
  go_enter Tryz.func21, Tryz.ntmps21
  go_upto_region 8 with (first
    | (go_at_call 46; (with_reducible refine (HP.out _).mono ?_); rintro e w1 ⟨rfl, hb1⟩; have hB1 : Below w.heap.size w w1 := hb0.trans (hb1.mono (by simp)); have dd1 := dd0.on hb1; obtain ⟨y0, y1, y2, yl⟩ := id dd1)
    | (go_at_call 48; (with_reducible refine (HDG.out _).mono ?_); rintro e w2 ⟨a2, c2, rfl, s2, z2, hb2⟩; have hB2 : Below w.heap.size w w2 := hB1.trans (hb2.mono hB1.size); have dd2 := dd1.on hb2; obtain ⟨u0, u1, u2, ul⟩ := id dd2))
  go_region_with (first
    | (go_at_call 51; (with_reducible refine (HT.out _).mono ?_); rintro e w3 ⟨a3, c3, rfl, s3, z3, -, hb3⟩; have hB3 : Below w.heap.size w w3 := Below.trans (by (repeat (first | exact Below.refl _ _ | assumption | refine Below.setCell ?_ (by first | omega | (simp <;> omega)) _ | refine Below.alloc ?_ (by first | omega | (simp <;> omega)) _ | refine Below.drew ?_ | refine below_drewN' ?_ _))) (hb3.mono (by have := hB2.size; (try simp only [size_drew', World.size_alloc]); omega)); have dd3 := (dd2.drewn).on hb3; obtain ⟨v0, v1, v2, vl⟩ := id dd3)
    | (go_at_call 50; (with_reducible refine (HM.out _ _ _ _ _ ?_ s3).mono ?_); exact (s2.drewn).on hb3; rintro e w4 ⟨a4, c4, rfl, s4, z4, -, hb4⟩; have hB4 : Below w.heap.size w w4 := hB3.trans (hb4.mono hB3.size); have dd4 := dd3.on hb4; obtain ⟨t0, t1, t2, tl⟩ := id dd4)
    | (go_at_call 49; (with_reducible refine (HR.out _ _ _ s4 z4).mono ?_); rintro e w5 ⟨rfl, hb5⟩; have hB5 : Below w.heap.size w w5 := hB4.trans (hb5.mono hB4.size)))
  all_goals (try go_wp2_with fail)
  all_goals (go_ret; exact RetB.of rfl hB5)
end Go.Proofs.YtiglekomfgfilaaGreatDoor
