/- Plain Lean: binary64 as bits: kind, sign, whole part, power of two; the decimal that n times a power of two is. -/
import Derived.Test.YtlhahbniigjkkaaGreatDoorZ7
import Derived.Test.YtlhahbniigjkkaaGreatDoorZ1
import Derived.Laws.Bits64b
import Derived.Test.YtlhahbniigjkkaaGreatDoorZ6
namespace Go.Proofs.YtlhahbniigjkkaaGreatDoor.Fl
set_option linter.all false
open Go

def expo (x : Nat) : Nat := x / 4503599627370496 % 2048
def frac (x : Nat) : Nat := x % 4503599627370496
def kind (x : Nat) : Nat := if expo x = 2047 then (if frac x = 0 then 3 else 4) else if 0 < expo x then 2 else if 0 < frac x then 1 else 0
def neg (x : Nat) : Bool := decide (9223372036854775808 ≤ x)
def mant (x : Nat) : Nat := if kind x = 2 then 4503599627370496 + frac x else if kind x < 2 then frac x else 0
def expn (x : Nat) : Int := if kind x = 2 then (expo x : Int) - 1075 else if kind x < 2 then -1074 else 0

theorem kind_lt (x : Nat) : kind x ≤ 4 := by unfold kind; repeat' split
                                             all_goals omega
theorem expo_lt (x : Nat) : expo x < 2048 := Nat.mod_lt _ (by decide)
theorem frac_lt (x : Nat) : frac x < 4503599627370496 := Nat.mod_lt _ (by decide)
theorem mant_lt (x : Nat) : mant x < 9007199254740992 := by
  have := frac_lt x
  unfold mant; split
  · omega
  · split <;> omega
theorem expn_bound (x : Nat) : -1074 ≤ expn x ∧ expn x ≤ 971 := by
  unfold expn
  split
  · rename_i h
    unfold kind at h
    have := expo_lt x
    split at h
    · split at h <;> omega
    · split at h
      · omega
      · split at h <;> omega
  · split <;> omega

/-- Halved while it is even, so many times at most: what is left, and how many times were not taken. -/
def halve : Nat → Nat → Nat × Nat
  | 0, n => (n, 0)
  | k + 1, n => if n ≠ 0 ∧ n % 2 = 0 then halve k (n / 2) else (n, k + 1)
theorem halve_yes {k n : Nat} (h0 : n ≠ 0) (h : n % 2 = 0) : halve (k + 1) n = halve k (n / 2) := if_pos ⟨h0, h⟩
theorem halve_no {k n : Nat} (h : n = 0 ∨ n % 2 ≠ 0) : halve (k + 1) n = (n, k + 1) := if_neg (by omega)
theorem halve_le (k : Nat) : ∀ n, (halve k n).1 ≤ n ∧ (halve k n).2 ≤ k := by
  induction k with
  | zero => intro n; exact ⟨Nat.le_refl _, Nat.le_refl _⟩
  | succ k ih =>
    intro n
    by_cases h : n ≠ 0 ∧ n % 2 = 0
    · rw [halve_yes h.1 h.2]
      have := ih (n / 2)
      exact ⟨by omega, by omega⟩
    · rw [halve_no (by omega)]; exact ⟨Nat.le_refl _, Nat.le_refl _⟩
theorem halve_eq (k : Nat) : ∀ n, (halve k n).1 * 2 ^ k = n * 2 ^ (halve k n).2 := by
  induction k with
  | zero => intro n; rfl
  | succ k ih =>
    intro n
    by_cases h : n ≠ 0 ∧ n % 2 = 0
    · rw [halve_yes h.1 h.2, Nat.pow_succ, ← Nat.mul_assoc, ih (n / 2), Nat.mul_right_comm, show n / 2 * 2 = n by omega]
    · rw [halve_no (by omega)]
theorem halve_zero (k : Nat) : halve k 0 = (0, k) := by
  cases k with
  | zero => rfl
  | succ k => rw [halve_no (Or.inl rfl)]

/-- What is made of digits, the error left out. -/
def dv (r : Dc.Res) : Value := .agg #[.bool r.n, .string ⟨r.l.toArray⟩, .int .i64 r.x]
/-- n times 2^e as a decimal. -/
def of (s : Bool) (n : Nat) (e : Int) : Dc.Res :=
  if 0 ≤ e then Dc.mk s (Lib.decDigits (n * 2 ^ e.toNat)) 0 else Dc.mk s (Lib.decDigits ((halve (-e).toNat n).1 * 5 ^ (halve (-e).toNat n).2)) (-((halve (-e).toNat n).2 : Int))
def okd (r : Dc.Res) : Dc.Res := ⟨r.n, r.l, r.x, 0⟩
/-- The decimal that a number is; error 11: it is none. -/
def dec (x : Nat) : Dc.Res := if 3 ≤ kind x then ⟨false, [], 0, 11⟩ else okd (of (neg x) (mant x) (expn x))
/-- The middle between a number and the next one that is farther from 0. -/
def mid (x : Nat) : Dc.Res := if 3 ≤ kind x then ⟨false, [], 0, 11⟩ else okd (of (neg x) (2 * mant x + 1) (expn x - 1))
def sig (x : Nat) (k way : Int) : Dc.Res := if 3 ≤ kind x then ⟨false, [], 0, 11⟩ else Dc.sig (dec x).n (dec x).l (dec x).x k way
def place (x : Nat) (k way : Int) : Dc.Res := if 3 ≤ kind x then ⟨false, [], 0, 11⟩ else Dc.place (dec x).n (dec x).l (dec x).x k way

theorem pow_le_B (a k : Nat) (ha : a ≤ 8) (hk : k ≤ 1200) : a ^ k ≤ Na.B ^ 120 := by
  have h1 : a ^ k ≤ (2 ^ 3) ^ k := Nat.pow_le_pow_left (by omega) _
  rw [← Nat.pow_mul] at h1
  obtain ⟨c, hc⟩ : ∃ c, c = 120 := ⟨_, rfl⟩
  have h2 : (2 : Nat) ^ (3 * k) ≤ 2 ^ (32 * c) := Nat.pow_le_pow_right (by decide) (by omega)
  rw [Nat.pow_mul 2 32 c, hc] at h2
  exact Nat.le_trans h1 h2
theorem mul_pow_lt (n a k : Nat) (hn : n < Na.B ^ 2) (ha : a ≤ 8) (hk : k ≤ 1200) : n * a ^ k < Na.B ^ 122 := by
  have h1 := pow_le_B a k ha hk
  have h2 : 0 < Na.B ^ 120 := Nat.pow_pos (by decide)
  calc n * a ^ k ≤ n * Na.B ^ 120 := Nat.mul_le_mul_left _ h1
    _ < Na.B ^ 2 * Na.B ^ 120 := Nat.mul_lt_mul_of_pos_right hn h2
    _ = Na.B ^ 122 := by rw [← Nat.pow_add]
theorem len_mul_pow (n a k : Nat) (hn : n < Na.B ^ 2) (ha : a ≤ 8) (hk : k ≤ 1200) : (Na.limbs (n * a ^ k)).length ≤ 122 := Na.limbs_len_le _ _ (mul_pow_lt n a k hn ha hk)
end Go.Proofs.YtlhahbniigjkkaaGreatDoor.Fl

/- binary64 in bits: kind and parts, in the program and in the reference. -/
namespace Go.Proofs.YtlhahbniigjkkaaGreatDoor
set_option linter.all false
open Go.RowKit

theorem Fl.and_mask (x m k : Nat) (hx : x < 18446744073709551616) (hm : m = 2 ^ k - 1) (hk : k ≤ 63) : bits BinOp.and IntKind.u64 (x : Int) (m : Int) = ((x % 2 ^ k : Nat) : Int) := by
  have h1 : 2 ^ k ≤ 2 ^ 63 := Nat.pow_le_pow_right (by decide) hk
  rw [bits_and_u64_nat x m hx (by omega), hm, Nat.and_two_pow_sub_one_eq_mod]
theorem Fl.and_expo (x : Nat) (hx : x < 18446744073709551616) : bits BinOp.and IntKind.u64 ((x / 4503599627370496 : Nat) : Int) 2047 = (Fl.expo x : Int) := Fl.and_mask _ 2047 11 (by omega) (by decide) (by decide)
theorem Fl.and_frac (x : Nat) (hx : x < 18446744073709551616) : bits BinOp.and IntKind.u64 (x : Int) 4503599627370495 = (Fl.frac x : Int) := Fl.and_mask _ 4503599627370495 52 hx (by decide) (by decide)
theorem Fl.or_one (f : Nat) (h : f < 4503599627370496) : bits BinOp.or IntKind.u64 4503599627370496 (f : Int) = ((4503599627370496 + f : Nat) : Int) := by
  rw [show (4503599627370496 : Int) = ((4503599627370496 : Nat) : Int) by rfl, bits_or_u64_nat _ _ (by decide) (by omega)]
  congr 1
  have := Nat.two_pow_add_eq_or_of_lt (show f < 2 ^ 52 by omega) 1
  rw [Nat.mul_one] at this; exact this.symm

/-- The five kinds, by the two parts. -/
theorem Fl.kinds (x : Nat) : (Fl.expo x = 2047 ∧ Fl.frac x = 0 ∧ Fl.kind x = 3) ∨ (Fl.expo x = 2047 ∧ Fl.frac x ≠ 0 ∧ Fl.kind x = 4) ∨ (Fl.expo x ≠ 2047 ∧ 0 < Fl.expo x ∧ Fl.kind x = 2) ∨ (Fl.expo x = 0 ∧ 0 < Fl.frac x ∧ Fl.kind x = 1) ∨ (Fl.expo x = 0 ∧ Fl.frac x = 0 ∧ Fl.kind x = 0) := by
  by_cases h1 : Fl.expo x = 2047
  · by_cases h2 : Fl.frac x = 0
    · exact Or.inl ⟨h1, h2, by rw [Fl.kind, if_pos h1, if_pos h2]⟩
    · exact Or.inr (Or.inl ⟨h1, h2, by rw [Fl.kind, if_pos h1, if_neg h2]⟩)
  · by_cases h2 : 0 < Fl.expo x
    · exact Or.inr (Or.inr (Or.inl ⟨h1, h2, by rw [Fl.kind, if_neg h1, if_pos h2]⟩))
    · by_cases h3 : 0 < Fl.frac x
      · exact Or.inr (Or.inr (Or.inr (Or.inl ⟨by omega, h3, by rw [Fl.kind, if_neg h1, if_neg h2, if_pos h3]⟩)))
      · exact Or.inr (Or.inr (Or.inr (Or.inr ⟨by omega, by omega, by rw [Fl.kind, if_neg h1, if_neg h2, if_neg h3]⟩)))

set_option maxHeartbeats 1000000 in
theorem fl_kind_any (x : Nat) (hx : x < 18446744073709551616) (w : World) : Calls Tryz.prog 31 #[.int .u64 x] w (Ret0 (.int .i64 (Fl.kind x : Nat)) w) := by
  have hand1 := Fl.and_expo x hx
  have hand2 := Fl.and_frac x hx
  have hk := Fl.kinds x
  have he2 := Fl.expo_lt x
  have hf2 := Fl.frac_lt x
  obtain ⟨q, hq⟩ : ∃ q, q = x / 4503599627370496 := ⟨_, rfl⟩
  have hqi : (x : Int) / 4503599627370496 = (q : Int) := by omega
  rw [← hq] at hand1
  obtain ⟨e, he⟩ : ∃ e, e = Fl.expo x := ⟨_, rfl⟩
  obtain ⟨f, hf⟩ : ∃ e, e = Fl.frac x := ⟨_, rfl⟩
  obtain ⟨k, hkk⟩ : ∃ e, e = Fl.kind x := ⟨_, rfl⟩
  rw [← he, ← hf, ← hkk] at hk
  rw [← he] at hand1 he2
  rw [← hf] at hand2 hf2
  rw [← hkk]
  clear he hf hkk hq
  rcases hk with ⟨rfl, rfl, rfl⟩ | ⟨rfl, h2, rfl⟩ | ⟨h1, h2, rfl⟩ | ⟨rfl, h2, rfl⟩ | ⟨rfl, rfl, rfl⟩
  · go_enter Tryz.func31, Tryz.ntmps31
    go_wp2
    go_ret
    exact Ret0.of rfl
  · have b2 : ((f : Int) == 0) = false := by simpa using h2
    go_enter Tryz.func31, Tryz.ntmps31
    go_wp2
    go_ret
    exact Ret0.of rfl
  · have b1 : ((e : Int) == 2047) = false := by simp; omega
    go_enter Tryz.func31, Tryz.ntmps31
    go_wp2
    go_ret
    exact Ret0.of rfl
  · go_enter Tryz.func31, Tryz.ntmps31
    go_wp2
    go_ret
    exact Ret0.of rfl
  · go_enter Tryz.func31, Tryz.ntmps31
    go_wp2
    go_ret
    exact Ret0.of rfl

set_option maxHeartbeats 1000000 in
theorem r3_kind_any (x : Nat) (hx : x < 18446744073709551616) (w : World) : Calls Tryz.prog 20 #[.int .u64 x] w (Ret0 (.int .i64 (Fl.kind x : Nat)) w) := by
  have hk := Fl.kinds x
  have he2 := Fl.expo_lt x
  have hf2 := Fl.frac_lt x
  obtain ⟨e, he⟩ : ∃ e, e = Fl.expo x := ⟨_, rfl⟩
  obtain ⟨f, hf⟩ : ∃ e, e = Fl.frac x := ⟨_, rfl⟩
  obtain ⟨k, hkk⟩ : ∃ e, e = Fl.kind x := ⟨_, rfl⟩
  have hei : (x : Int) / 4503599627370496 % 2048 = (e : Int) := by rw [he, Fl.expo]; omega
  have hfi : (x : Int) % 4503599627370496 = (f : Int) := by rw [hf, Fl.frac]; omega
  rw [← he, ← hf, ← hkk] at hk
  rw [← he] at he2
  rw [← hf] at hf2
  rw [← hkk]
  clear he hf hkk
  rcases hk with ⟨rfl, rfl, rfl⟩ | ⟨rfl, h2, rfl⟩ | ⟨h1, h2, rfl⟩ | ⟨rfl, h2, rfl⟩ | ⟨rfl, rfl, rfl⟩
  · go_enter Tryz.func20, Tryz.ntmps20
    go_wp2
    go_ret
    exact Ret0.of rfl
  · have b2 : ((f : Int) == 0) = false := by simpa using h2
    go_enter Tryz.func20, Tryz.ntmps20
    go_wp2
    go_ret
    exact Ret0.of rfl
  · have b1 : ((e : Int) == 2047) = false := by simp; omega
    have b2 : ((e : Int) == 0) = false := by simp; omega
    go_enter Tryz.func20, Tryz.ntmps20
    go_wp2
    go_ret
    exact Ret0.of rfl
  · have b2 : ((f : Int) == 0) = false := by simp; omega
    go_enter Tryz.func20, Tryz.ntmps20
    go_wp2
    go_ret
    exact Ret0.of rfl
  · go_enter Tryz.func20, Tryz.ntmps20
    go_wp2
    go_ret
    exact Ret0.of rfl

theorem Fl.neg_int (x : Nat) : decide ((9223372036854775808 : Int) ≤ (x : Int)) = Fl.neg x := by rw [Fl.neg]; apply decide_eq_decide.2; omega
/-- The parts of a number, by its kind. -/
theorem Fl.parts (x : Nat) : (Fl.kind x < 2 ∧ Fl.mant x = Fl.frac x ∧ Fl.expn x = -1074) ∨ (Fl.kind x = 2 ∧ Fl.mant x = 4503599627370496 + Fl.frac x ∧ Fl.expn x = (Fl.expo x : Int) - 1075) ∨ (3 ≤ Fl.kind x ∧ Fl.mant x = 0 ∧ Fl.expn x = 0) := by
  rcases Nat.lt_trichotomy (Fl.kind x) 2 with h | h | h
  · exact Or.inl ⟨h, by rw [Fl.mant, if_neg (by omega), if_pos h], by rw [Fl.expn, if_neg (by omega), if_pos h]⟩
  · exact Or.inr (Or.inl ⟨h, by rw [Fl.mant, if_pos h], by rw [Fl.expn, if_pos h]⟩)
  · exact Or.inr (Or.inr ⟨h, by rw [Fl.mant, if_neg (by omega), if_neg (by omega)], by rw [Fl.expn, if_neg (by omega), if_neg (by omega)]⟩)

set_option maxHeartbeats 1000000 in
theorem fl_split_any (x : Nat) (hx : x < 18446744073709551616) (w : World) : Calls Tryz.prog 32 #[.int .u64 x] w (Ret0 (.tuple #[.bool (Fl.neg x), .int .u64 (Fl.mant x : Nat), .int .i64 (Fl.expn x)]) w) := by
  have hand1 := Fl.and_expo x hx
  have hand2 := Fl.and_frac x hx
  have hp := Fl.parts x
  have he2 := Fl.expo_lt x
  have hf2 := Fl.frac_lt x
  have hor := Fl.or_one _ hf2
  have hn := Fl.neg_int x
  have hK := fl_kind_any x hx
  obtain ⟨q, hq⟩ : ∃ q, q = x / 4503599627370496 := ⟨_, rfl⟩
  have hqi : (x : Int) / 4503599627370496 = (q : Int) := by omega
  rw [← hq] at hand1
  obtain ⟨e, he⟩ : ∃ e, e = Fl.expo x := ⟨_, rfl⟩
  obtain ⟨f, hf⟩ : ∃ e, e = Fl.frac x := ⟨_, rfl⟩
  obtain ⟨k, hkk⟩ : ∃ e, e = Fl.kind x := ⟨_, rfl⟩
  obtain ⟨m, hm⟩ : ∃ e, e = Fl.mant x := ⟨_, rfl⟩
  obtain ⟨ex, hex⟩ : ∃ e, e = Fl.expn x := ⟨_, rfl⟩
  obtain ⟨s, hs⟩ : ∃ e, e = Fl.neg x := ⟨_, rfl⟩
  rw [← he, ← hf, ← hkk, ← hm, ← hex] at hp
  rw [← he] at hand1 he2
  rw [← hf] at hand2 hf2 hor
  rw [← hkk] at hK
  rw [← hs] at hn
  rw [← hm, ← hex, ← hs]
  have HK := Lib.hid hK
  clear he hf hkk hm hex hs hq hK
  rcases hp with ⟨h1, rfl, rfl⟩ | ⟨rfl, rfl, rfl⟩ | ⟨h1, rfl, rfl⟩
  · have h01 : k = 0 ∨ k = 1 := by omega
    rcases h01 with rfl | rfl
    all_goals (
      go_enter Tryz.func32, Tryz.ntmps32
      go_wp2_with (go_at_call 31; (with_reducible refine (HK.out _).mono ?_); rintro e w' ⟨rfl, rfl⟩)
      refine bodyPost_ret (v := .tuple #[.bool s, .int .u64 m, .int .i64 (-1074)]) (by simp [results, Tryz.results32, go_sem]) rfl (Ret0.of rfl))
  · go_enter Tryz.func32, Tryz.ntmps32
    go_wp2_with (go_at_call 31; (with_reducible refine (HK.out _).mono ?_); rintro e w' ⟨rfl, rfl⟩)
    refine bodyPost_ret (v := .tuple #[.bool s, .int .u64 ((4503599627370496 + f : Nat) : Int), .int .i64 ((e : Int) - 1075)]) (by simp [results, Tryz.results32, go_sem, hor]) rfl (Ret0.of rfl)
  · have b0 : ((k : Int) == 0) = false := by simp; omega
    have b1 : ((k : Int) == 1) = false := by simp; omega
    have b2 : ((k : Int) == 2) = false := by simp; omega
    go_enter Tryz.func32, Tryz.ntmps32
    go_wp2_with (go_at_call 31; (with_reducible refine (HK.out _).mono ?_); rintro e w' ⟨rfl, rfl⟩)
    refine bodyPost_ret (v := .tuple #[.bool s, .int .u64 0, .int .i64 0]) (by simp [results, Tryz.results32, go_sem]) rfl (Ret0.of rfl)

set_option maxHeartbeats 1000000 in
theorem r3_is_any (x : Nat) (w : World) : Calls Tryz.prog 68 #[.int .u64 x] w (Ret0 (.bool (Fl.neg x)) w) := by
  have hn := Fl.neg_int x
  go_enter Tryz.func68, Tryz.ntmps68
  go_wp2
  refine bodyPost_ret (v := .bool (Fl.neg x)) (by simp [results, Tryz.results68, go_sem, hn]) rfl (Ret0.of rfl)

set_option maxHeartbeats 1000000 in
theorem r3_split_any (x : Nat) (hx : x < 18446744073709551616) (w : World) : Calls Tryz.prog 26 #[.int .u64 x] w (Ret0 (.tuple #[.bool (Fl.neg x), .int .u64 (Fl.mant x : Nat), .int .i64 (Fl.expn x)]) w) := by
  have hp := Fl.parts x
  have he2 := Fl.expo_lt x
  have hf2 := Fl.frac_lt x
  have hK := r3_kind_any x hx
  have hI := r3_is_any x
  obtain ⟨e, he⟩ : ∃ e, e = Fl.expo x := ⟨_, rfl⟩
  obtain ⟨f, hf⟩ : ∃ e, e = Fl.frac x := ⟨_, rfl⟩
  obtain ⟨k, hkk⟩ : ∃ e, e = Fl.kind x := ⟨_, rfl⟩
  obtain ⟨m, hm⟩ : ∃ e, e = Fl.mant x := ⟨_, rfl⟩
  obtain ⟨ex, hex⟩ : ∃ e, e = Fl.expn x := ⟨_, rfl⟩
  obtain ⟨s, hs⟩ : ∃ e, e = Fl.neg x := ⟨_, rfl⟩
  have hei : (x : Int) / 4503599627370496 % 2048 = (e : Int) := by rw [he, Fl.expo]; omega
  have hfi : (x : Int) % 4503599627370496 = (f : Int) := by rw [hf, Fl.frac]; omega
  rw [← he, ← hf, ← hkk, ← hm, ← hex] at hp
  rw [← he] at he2
  rw [← hf] at hf2
  rw [← hkk] at hK
  rw [← hs] at hI
  rw [← hm, ← hex, ← hs]
  have HK := Lib.hid hK; have HI := Lib.hid hI
  clear he hf hkk hm hex hs hK hI
  rcases hp with ⟨h1, rfl, rfl⟩ | ⟨rfl, rfl, rfl⟩ | ⟨h1, rfl, rfl⟩
  · have h01 : k = 0 ∨ k = 1 := by omega
    rcases h01 with rfl | rfl
    all_goals (
      go_enter Tryz.func26, Tryz.ntmps26
      go_wp2_with (first | (go_at_call 20; (with_reducible refine (HK.out _).mono ?_); rintro e w' ⟨rfl, rfl⟩) | (go_at_call 68; (with_reducible refine (HI.out _).mono ?_); rintro e w' ⟨rfl, rfl⟩))
      refine bodyPost_ret (v := .tuple #[.bool s, .int .u64 m, .int .i64 (-1074)]) (by simp [results, Tryz.results26, go_sem, hfi]) rfl (Ret0.of rfl))
  · go_enter Tryz.func26, Tryz.ntmps26
    go_wp2_with (first | (go_at_call 20; (with_reducible refine (HK.out _).mono ?_); rintro e w' ⟨rfl, rfl⟩) | (go_at_call 68; (with_reducible refine (HI.out _).mono ?_); rintro e w' ⟨rfl, rfl⟩))
    refine bodyPost_ret (v := .tuple #[.bool s, .int .u64 ((4503599627370496 + f : Nat) : Int), .int .i64 ((e : Int) - 1075)]) (by simp [results, Tryz.results26, go_sem, hfi]) rfl (Ret0.of rfl)
  · have b0 : ((k : Int) == 0) = false := by simp; omega
    have b1 : ((k : Int) == 1) = false := by simp; omega
    have b2 : ((k : Int) == 2) = false := by simp; omega
    go_enter Tryz.func26, Tryz.ntmps26
    go_wp2_with (first | (go_at_call 20; (with_reducible refine (HK.out _).mono ?_); rintro e w' ⟨rfl, rfl⟩) | (go_at_call 68; (with_reducible refine (HI.out _).mono ?_); rintro e w' ⟨rfl, rfl⟩))
    refine bodyPost_ret (v := .tuple #[.bool s, .int .u64 0, .int .i64 0]) (by simp [results, Tryz.results26, go_sem, hfi]) rfl (Ret0.of rfl)

end Go.Proofs.YtlhahbniigjkkaaGreatDoor

/- Shr: what is refused. -/
namespace Go.Proofs.YtlhahbniigjkkaaGreatDoor
set_option linter.all false
open Go.RowKit

/-- A list of the call's own, a bool and an error. -/
def GivesS (q : List Nat × Bool × Int) (w : World) (e : Ending) (w' : World) : Prop := ∃ a c, e = .returned (.tuple #[.slice a q.1.length c, .bool q.2.1, .int .i64 q.2.2]) ∧ Sl w' a c q.1 ∧ Own w' w.heap.size a q.1.length ∧ Below w.heap.size w w'
theorem gives_snil {q : List Nat × Bool × Int} {w w' : World} (b : Bool) (e : Int) (hq : q = ([], b, e)) (hb : Below w.heap.size w w') : GivesS q w (.returned (.tuple #[.slice none 0 0, .bool b, .int .i64 e])) w' := by
  rw [hq]; exact ⟨none, 0, rfl, Sl.nil _ _ _, Own.nil _ _ _, hb⟩

section
variable (a : Option Addr) (c : Nat) (l : List Nat) (n : Int) (w : World) (h : Sl w a c l) (hn : l.length ≤ 1000000) (hi : -9223372036854775808 ≤ n ∧ n ≤ 9223372036854775807)
include h hn hi

set_option maxHeartbeats 1000000 in
theorem na_shr_arg (h0 : n < 0) : Calls Tryz.prog 41 #[.slice a l.length c, .int .i64 n] w (GivesS (Na.shr l n) w) := by
  have e := Lib.hid (gives_snil false 1 (show Na.shr l n = ([], false, 1) from if_pos h0) (Below.refl w.heap.size w))
  go_enter Tryz.func41, Tryz.ntmps41
  go_wp2
  refine bodyPost_ret (v := .tuple #[.slice none 0 0, .bool false, .int .i64 1]) (by simp [results, Tryz.results41, go_sem]) rfl e.out

set_option maxHeartbeats 1000000 in
theorem na_shr_big (h0 : 0 ≤ n) (hb : Na.big l = true) : Calls Tryz.prog 41 #[.slice a l.length c, .int .i64 n] w (GivesS (Na.shr l n) w) := by
  have hB : Below w.heap.size w (w.alloc (Obj.cells #[Value.slice a l.length c] 56)) := (Below.refl _ _).alloc (Nat.le_refl _) _
  have e := Lib.hid (gives_snil false 2 (show Na.shr l n = ([], false, 2) by rw [Na.shr, if_neg (by omega), if_pos hb]) hB)
  have H1 := Lib.hid (na_over1_any h hn true hb)
  clear hb
  go_enter Tryz.func41, Tryz.ntmps41
  go_wp2_with (first | (go_at_call 87; (with_reducible refine (H1.out).mono ?_); rintro e w' ⟨rfl, rfl⟩))
  refine bodyPost_ret (v := .tuple #[.slice none 0 0, .bool false, .int .i64 2]) (by simp [results, Tryz.results41, go_sem]) rfl e.out
end
end Go.Proofs.YtlhahbniigjkkaaGreatDoor

/- Shr: nothing is left. -/
namespace Go.Proofs.YtlhahbniigjkkaaGreatDoor
set_option linter.all false
open Go.RowKit

set_option maxHeartbeats 1000000 in
theorem na_shr_all (a : Option Addr) (c : Nat) (l : List Nat) (n : Nat) (w : World) (h : Sl w a c l) (hn : l.length ≤ 1000000) (hi : n ≤ 9223372036854775807) (hb : Na.big l = false) (hp : (Na.cut l).length ≤ n / 32) :
    Calls Tryz.prog 41 #[.slice a l.length c, .int .i64 n] w (GivesS (Na.shr l n) w) := by
  have hB : Below w.heap.size w (w.alloc (Obj.cells #[Value.slice a l.length c] 56)) := (Below.refl _ _).alloc (Nat.le_refl _) _
  have H1 := Lib.hid (na_over1_any h hn false hb)
  have hl1 : (Na.cut l).length ≤ 256 := Nat.le_of_not_lt (of_decide_eq_false hb)
  have H4 := na_cut_any a c l _ (h.on hB) hn
  have S1 := h.cut
  have hv : Na.val l < 2 ^ n := by
    have h1 := Na.val_lt (Na.cut l) (Na.ok_cut l)
    rw [Na.val_cut, show Na.B ^ (Na.cut l).length = 2 ^ (32 * (Na.cut l).length) by rw [Nat.pow_mul]] at h1
    exact Nat.lt_of_lt_of_le h1 (Nat.pow_le_pow_right (by decide) (by omega))
  have hnil := Na.cut_nil_iff l
  have e2 := Lib.hid (show Na.shr l n = ([], decide (0 < (Na.cut l).length), 0) by
    rw [Na.shr, if_neg (by omega), hb, if_neg (by simp), Int.toNat_natCast, Nat.div_eq_of_lt hv, Nat.mod_eq_of_lt hv, Na.limbs_zero]
    congr 2
    apply decide_eq_decide.2
    rw [List.length_pos_iff, ne_eq, ne_eq, hnil])
  have hrt : Na.rt (Na.cut l) = (Na.cut l).length := by rw [Na.rt_cut]; rfl
  obtain ⟨q, hq⟩ : ∃ q, q = Na.cut l := ⟨_, rfl⟩
  rw [← hq] at H4 hl1 S1 hp e2 hrt
  obtain ⟨ln, hqn⟩ : ∃ n, q.length = n := ⟨_, rfl⟩
  have H5 := na_right_any a c q _ (S1.on hB) (by omega)
  rw [hrt, hqn] at H5
  rw [hqn] at H4 hl1 hp e2
  have H4' := Lib.hid H4; have H5' := Lib.hid H5
  obtain ⟨p, hpp⟩ : ∃ p, p = n / 32 := ⟨_, rfl⟩
  have hpi : (n : Int) / 32 = (p : Int) := by omega
  rw [← hpp] at hp
  have hmin : min (p : Int) (ln : Int) = (ln : Int) := by omega
  have hs1 : ln ≤ c := by have := S1.cap; omega
  clear hb hv hnil hq hqn H4 H5 hrt hpp S1
  go_enter Tryz.func41, Tryz.ntmps41
  go_wp2_with (first | (go_at_call 87; (with_reducible refine (H1.out).mono ?_); rintro e w' ⟨rfl, rfl⟩) | (go_at_call 88; (with_reducible refine (H4'.out).mono ?_); rintro e w' ⟨rfl, rfl⟩) | (go_at_call 89; (with_reducible refine (H5'.out).mono ?_); rintro e w' ⟨rfl, rfl⟩) | (at_make; refine mk_u32 rfl _ _ rfl _ _ 0 rfl rfl (by simp) (by simp) (by omega) ?_))
  intro w1 hK hgrow
  have HB1 := Lib.hid (hgrow.out _ _ hB (by simp [World.size_alloc]))
  clear hgrow hB hK
  go_wp2_with (first | (refine wpList_copy_nothing rfl _ _ 56 56 rfl 65 Tryz.underlying56 (by kernel_rfl) _ _ _ _ _ _ rfl rfl (by simp) ?_))
  all_goals exact bodyPost_ret (v := .tuple #[.slice none 0 0, .bool (decide (0 < ln)), .int .i64 0]) (by simp [results, Tryz.results41, go_sem]) rfl (gives_snil _ 0 e2.out HB1.out)
end Go.Proofs.YtlhahbniigjkkaaGreatDoor
