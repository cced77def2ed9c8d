/- Plain Lean: binary64 as bits: kind, sign, whole part, power of two; the decimal that n times a power of two is. -/
import Derived.Test.YtjnkbifafbjckaaGreatDoorZ8
import Derived.Test.YtjnkbifafbjckaaGreatDoorZ1
import Derived.Laws.Bits64b
import Derived.Test.YtjnkbifafbjckaaGreatDoorZ7
import Derived.Deep.QuietTactic
import Derived.BigQuiet
import Derived.Outline
namespace Go.Proofs.YtjnkbifafbjckaaGreatDoor.Fl
set_option linter.all false
open Go

def expo (x : Nat) : Nat := x / 4503599627370496 % 2048
def frac (x : Nat) : Nat := x % 4503599627370496
def kind (x : Nat) : Nat := if expo x = 2047 then (if frac x = 0 then 3 else 4) else if 0 < expo x then 2 else if 0 < frac x then 1 else 0
def neg (x : Nat) : Bool := decide (9223372036854775808 ≤ x)
def mant (x : Nat) : Nat := if kind x = 2 then 4503599627370496 + frac x else if kind x < 2 then frac x else 0
def expn (x : Nat) : Int := if kind x = 2 then (expo x : Int) - 1075 else if kind x < 2 then -1074 else 0

theorem kind_lt (x : Nat) : kind x ≤ 4 := by unfold kind; repeat' split
                                             all_goals omega
theorem expo_lt (x : Nat) : expo x < 2048 := Nat.mod_lt _ (by decide)
theorem frac_lt (x : Nat) : frac x < 4503599627370496 := Nat.mod_lt _ (by decide)
theorem mant_lt (x : Nat) : mant x < 9007199254740992 := by
  have := frac_lt x
  unfold mant; split
  · omega
  · split <;> omega
theorem expn_bound (x : Nat) : -1074 ≤ expn x ∧ expn x ≤ 971 := by
  unfold expn
  split
  · rename_i h
    unfold kind at h
    have := expo_lt x
    split at h
    · split at h <;> omega
    · split at h
      · omega
      · split at h <;> omega
  · split <;> omega

/-- Halved while it is even, so many times at most: what is left, and how many times were not taken. -/
def halve : Nat → Nat → Nat × Nat
  | 0, n => (n, 0)
  | k + 1, n => if n ≠ 0 ∧ n % 2 = 0 then halve k (n / 2) else (n, k + 1)
theorem halve_yes {k n : Nat} (h0 : n ≠ 0) (h : n % 2 = 0) : halve (k + 1) n = halve k (n / 2) := if_pos ⟨h0, h⟩
theorem halve_no {k n : Nat} (h : n = 0 ∨ n % 2 ≠ 0) : halve (k + 1) n = (n, k + 1) := if_neg (by omega)
theorem halve_le (k : Nat) : ∀ n, (halve k n).1 ≤ n ∧ (halve k n).2 ≤ k := by
  induction k with
  | zero => intro n; exact ⟨Nat.le_refl _, Nat.le_refl _⟩
  | succ k ih =>
    intro n
    by_cases h : n ≠ 0 ∧ n % 2 = 0
    · rw [halve_yes h.1 h.2]
      have := ih (n / 2)
      exact ⟨by omega, by omega⟩
    · rw [halve_no (by omega)]; exact ⟨Nat.le_refl _, Nat.le_refl _⟩
theorem halve_eq (k : Nat) : ∀ n, (halve k n).1 * 2 ^ k = n * 2 ^ (halve k n).2 := by
  induction k with
  | zero => intro n; rfl
  | succ k ih =>
    intro n
    by_cases h : n ≠ 0 ∧ n % 2 = 0
    · rw [halve_yes h.1 h.2, Nat.pow_succ, ← Nat.mul_assoc, ih (n / 2), Nat.mul_right_comm, show n / 2 * 2 = n by omega]
    · rw [halve_no (by omega)]
theorem halve_zero (k : Nat) : halve k 0 = (0, k) := by
  cases k with
  | zero => rfl
  | succ k => rw [halve_no (Or.inl rfl)]

/-- What is made of digits, the error left out. -/
def dv (r : Dc.Res) : Value := .agg #[.bool r.n, .string ⟨r.l.toArray⟩, .int .i64 r.x]
/-- n times 2^e as a decimal. -/
def of (s : Bool) (n : Nat) (e : Int) : Dc.Res :=
  if 0 ≤ e then Dc.mk s (Lib.decDigits (n * 2 ^ e.toNat)) 0 else Dc.mk s (Lib.decDigits ((halve (-e).toNat n).1 * 5 ^ (halve (-e).toNat n).2)) (-((halve (-e).toNat n).2 : Int))
def okd (r : Dc.Res) : Dc.Res := ⟨r.n, r.l, r.x, 0⟩
/-- The decimal that a number is; error 11: it is none. -/
def dec (x : Nat) : Dc.Res := if 3 ≤ kind x then ⟨false, [], 0, 11⟩ else okd (of (neg x) (mant x) (expn x))
/-- The middle between a number and the next one that is farther from 0. -/
def mid (x : Nat) : Dc.Res := if 3 ≤ kind x then ⟨false, [], 0, 11⟩ else okd (of (neg x) (2 * mant x + 1) (expn x - 1))
def sig (x : Nat) (k way : Int) : Dc.Res := if 3 ≤ kind x then ⟨false, [], 0, 11⟩ else Dc.sig (dec x).n (dec x).l (dec x).x k way
def place (x : Nat) (k way : Int) : Dc.Res := if 3 ≤ kind x then ⟨false, [], 0, 11⟩ else Dc.place (dec x).n (dec x).l (dec x).x k way

theorem pow_le_B (a k : Nat) (ha : a ≤ 8) (hk : k ≤ 1200) : a ^ k ≤ Na.B ^ 120 := by
  have h1 : a ^ k ≤ (2 ^ 3) ^ k := Nat.pow_le_pow_left (by omega) _
  rw [← Nat.pow_mul] at h1
  obtain ⟨c, hc⟩ : ∃ c, c = 120 := ⟨_, rfl⟩
  have h2 : (2 : Nat) ^ (3 * k) ≤ 2 ^ (32 * c) := Nat.pow_le_pow_right (by decide) (by omega)
  rw [Nat.pow_mul 2 32 c, hc] at h2
  exact Nat.le_trans h1 h2
theorem mul_pow_lt (n a k : Nat) (hn : n < Na.B ^ 2) (ha : a ≤ 8) (hk : k ≤ 1200) : n * a ^ k < Na.B ^ 122 := by
  have h1 := pow_le_B a k ha hk
  have h2 : 0 < Na.B ^ 120 := Nat.pow_pos (by decide)
  calc n * a ^ k ≤ n * Na.B ^ 120 := Nat.mul_le_mul_left _ h1
    _ < Na.B ^ 2 * Na.B ^ 120 := Nat.mul_lt_mul_of_pos_right hn h2
    _ = Na.B ^ 122 := by rw [← Nat.pow_add]
theorem len_mul_pow (n a k : Nat) (hn : n < Na.B ^ 2) (ha : a ≤ 8) (hk : k ≤ 1200) : (Na.limbs (n * a ^ k)).length ≤ 122 := Na.limbs_len_le _ _ (mul_pow_lt n a k hn ha hk)
end Go.Proofs.YtjnkbifafbjckaaGreatDoor.Fl

/- binary64 in bits: kind and parts, in the program and in the reference. -/
namespace Go.Proofs.YtjnkbifafbjckaaGreatDoor
set_option linter.all false
open Go.RowKit

theorem Fl.and_mask (x m k : Nat) (hx : x < 18446744073709551616) (hm : m = 2 ^ k - 1) (hk : k ≤ 63) : bits BinOp.and IntKind.u64 (x : Int) (m : Int) = ((x % 2 ^ k : Nat) : Int) := by
  have h1 : 2 ^ k ≤ 2 ^ 63 := Nat.pow_le_pow_right (by decide) hk
  rw [bits_and_u64_nat x m hx (by omega), hm, Nat.and_two_pow_sub_one_eq_mod]
theorem Fl.and_expo (x : Nat) (hx : x < 18446744073709551616) : bits BinOp.and IntKind.u64 ((x / 4503599627370496 : Nat) : Int) 2047 = (Fl.expo x : Int) := Fl.and_mask _ 2047 11 (by omega) (by decide) (by decide)
theorem Fl.and_frac (x : Nat) (hx : x < 18446744073709551616) : bits BinOp.and IntKind.u64 (x : Int) 4503599627370495 = (Fl.frac x : Int) := Fl.and_mask _ 4503599627370495 52 hx (by decide) (by decide)
theorem Fl.or_one (f : Nat) (h : f < 4503599627370496) : bits BinOp.or IntKind.u64 4503599627370496 (f : Int) = ((4503599627370496 + f : Nat) : Int) := by
  rw [show (4503599627370496 : Int) = ((4503599627370496 : Nat) : Int) by rfl, bits_or_u64_nat _ _ (by decide) (by omega)]
  congr 1
  have := Nat.two_pow_add_eq_or_of_lt (show f < 2 ^ 52 by omega) 1
  rw [Nat.mul_one] at this; exact this.symm

/-- The five kinds, by the two parts. -/
theorem Fl.kinds (x : Nat) : (Fl.expo x = 2047 ∧ Fl.frac x = 0 ∧ Fl.kind x = 3) ∨ (Fl.expo x = 2047 ∧ Fl.frac x ≠ 0 ∧ Fl.kind x = 4) ∨ (Fl.expo x ≠ 2047 ∧ 0 < Fl.expo x ∧ Fl.kind x = 2) ∨ (Fl.expo x = 0 ∧ 0 < Fl.frac x ∧ Fl.kind x = 1) ∨ (Fl.expo x = 0 ∧ Fl.frac x = 0 ∧ Fl.kind x = 0) := by
  by_cases h1 : Fl.expo x = 2047
  · by_cases h2 : Fl.frac x = 0
    · exact Or.inl ⟨h1, h2, by rw [Fl.kind, if_pos h1, if_pos h2]⟩
    · exact Or.inr (Or.inl ⟨h1, h2, by rw [Fl.kind, if_pos h1, if_neg h2]⟩)
  · by_cases h2 : 0 < Fl.expo x
    · exact Or.inr (Or.inr (Or.inl ⟨h1, h2, by rw [Fl.kind, if_neg h1, if_pos h2]⟩))
    · by_cases h3 : 0 < Fl.frac x
      · exact Or.inr (Or.inr (Or.inr (Or.inl ⟨by omega, h3, by rw [Fl.kind, if_neg h1, if_neg h2, if_pos h3]⟩)))
      · exact Or.inr (Or.inr (Or.inr (Or.inr ⟨by omega, by omega, by rw [Fl.kind, if_neg h1, if_neg h2, if_neg h3]⟩)))

set_option maxHeartbeats 1000000 in
theorem fl_kind_any (x : Nat) (hx : x < 18446744073709551616) (w : World) : Calls Tryz.prog 69 #[.int .u64 x] w (Ret0 (.int .i64 (Fl.kind x : Nat)) w) := by
  have hand1 := Fl.and_expo x hx
  have hand2 := Fl.and_frac x hx
  have hk := Fl.kinds x
  have he2 := Fl.expo_lt x
  have hf2 := Fl.frac_lt x
  obtain ⟨q, hq⟩ : ∃ q, q = x / 4503599627370496 := ⟨_, rfl⟩
  have hqi : (x : Int) / 4503599627370496 = (q : Int) := by omega
  rw [← hq] at hand1
  obtain ⟨e, he⟩ : ∃ e, e = Fl.expo x := ⟨_, rfl⟩
  obtain ⟨f, hf⟩ : ∃ e, e = Fl.frac x := ⟨_, rfl⟩
  obtain ⟨k, hkk⟩ : ∃ e, e = Fl.kind x := ⟨_, rfl⟩
  rw [← he, ← hf, ← hkk] at hk
  rw [← he] at hand1 he2
  rw [← hf] at hand2 hf2
  rw [← hkk]
  clear he hf hkk hq
  rcases hk with ⟨rfl, rfl, rfl⟩ | ⟨rfl, h2, rfl⟩ | ⟨h1, h2, rfl⟩ | ⟨rfl, h2, rfl⟩ | ⟨rfl, rfl, rfl⟩
  · go_enter Tryz.func69, Tryz.ntmps69
    go_wp2
    go_ret
    exact Ret0.of rfl
  · have b2 : ((f : Int) == 0) = false := by simpa using h2
    go_enter Tryz.func69, Tryz.ntmps69
    go_wp2
    go_ret
    exact Ret0.of rfl
  · have b1 : ((e : Int) == 2047) = false := by simp; omega
    go_enter Tryz.func69, Tryz.ntmps69
    go_wp2
    go_ret
    exact Ret0.of rfl
  · go_enter Tryz.func69, Tryz.ntmps69
    go_wp2
    go_ret
    exact Ret0.of rfl
  · go_enter Tryz.func69, Tryz.ntmps69
    go_wp2
    go_ret
    exact Ret0.of rfl

set_option maxHeartbeats 1000000 in
theorem r3_kind_any (x : Nat) (hx : x < 18446744073709551616) (w : World) : Calls Tryz.prog 19 #[.int .u64 x] w (Ret0 (.int .i64 (Fl.kind x : Nat)) w) := by
  have hk := Fl.kinds x
  have he2 := Fl.expo_lt x
  have hf2 := Fl.frac_lt x
  obtain ⟨e, he⟩ : ∃ e, e = Fl.expo x := ⟨_, rfl⟩
  obtain ⟨f, hf⟩ : ∃ e, e = Fl.frac x := ⟨_, rfl⟩
  obtain ⟨k, hkk⟩ : ∃ e, e = Fl.kind x := ⟨_, rfl⟩
  have hei : (x : Int) / 4503599627370496 % 2048 = (e : Int) := by rw [he, Fl.expo]; omega
  have hfi : (x : Int) % 4503599627370496 = (f : Int) := by rw [hf, Fl.frac]; omega
  rw [← he, ← hf, ← hkk] at hk
  rw [← he] at he2
  rw [← hf] at hf2
  rw [← hkk]
  clear he hf hkk
  rcases hk with ⟨rfl, rfl, rfl⟩ | ⟨rfl, h2, rfl⟩ | ⟨h1, h2, rfl⟩ | ⟨rfl, h2, rfl⟩ | ⟨rfl, rfl, rfl⟩
  · go_enter Tryz.func19, Tryz.ntmps19
    go_wp2
    go_ret
    exact Ret0.of rfl
  · have b2 : ((f : Int) == 0) = false := by simpa using h2
    go_enter Tryz.func19, Tryz.ntmps19
    go_wp2
    go_ret
    exact Ret0.of rfl
  · have b1 : ((e : Int) == 2047) = false := by simp; omega
    have b2 : ((e : Int) == 0) = false := by simp; omega
    go_enter Tryz.func19, Tryz.ntmps19
    go_wp2
    go_ret
    exact Ret0.of rfl
  · have b2 : ((f : Int) == 0) = false := by simp; omega
    go_enter Tryz.func19, Tryz.ntmps19
    go_wp2
    go_ret
    exact Ret0.of rfl
  · go_enter Tryz.func19, Tryz.ntmps19
    go_wp2
    go_ret
    exact Ret0.of rfl

theorem Fl.neg_int (x : Nat) : decide ((9223372036854775808 : Int) ≤ (x : Int)) = Fl.neg x := by rw [Fl.neg]; apply decide_eq_decide.2; omega
/-- The parts of a number, by its kind. -/
theorem Fl.parts (x : Nat) : (Fl.kind x < 2 ∧ Fl.mant x = Fl.frac x ∧ Fl.expn x = -1074) ∨ (Fl.kind x = 2 ∧ Fl.mant x = 4503599627370496 + Fl.frac x ∧ Fl.expn x = (Fl.expo x : Int) - 1075) ∨ (3 ≤ Fl.kind x ∧ Fl.mant x = 0 ∧ Fl.expn x = 0) := by
  rcases Nat.lt_trichotomy (Fl.kind x) 2 with h | h | h
  · exact Or.inl ⟨h, by rw [Fl.mant, if_neg (by omega), if_pos h], by rw [Fl.expn, if_neg (by omega), if_pos h]⟩
  · exact Or.inr (Or.inl ⟨h, by rw [Fl.mant, if_pos h], by rw [Fl.expn, if_pos h]⟩)
  · exact Or.inr (Or.inr ⟨h, by rw [Fl.mant, if_neg (by omega), if_neg (by omega)], by rw [Fl.expn, if_neg (by omega), if_neg (by omega)]⟩)

set_option maxHeartbeats 1000000 in
theorem fl_split_any (x : Nat) (hx : x < 18446744073709551616) (w : World) : Calls Tryz.prog 70 #[.int .u64 x] w (Ret0 (.tuple #[.bool (Fl.neg x), .int .u64 (Fl.mant x : Nat), .int .i64 (Fl.expn x)]) w) := by
  have hand1 := Fl.and_expo x hx
  have hand2 := Fl.and_frac x hx
  have hp := Fl.parts x
  have he2 := Fl.expo_lt x
  have hf2 := Fl.frac_lt x
  have hor := Fl.or_one _ hf2
  have hn := Fl.neg_int x
  have hK := fl_kind_any x hx
  obtain ⟨q, hq⟩ : ∃ q, q = x / 4503599627370496 := ⟨_, rfl⟩
  have hqi : (x : Int) / 4503599627370496 = (q : Int) := by omega
  rw [← hq] at hand1
  obtain ⟨e, he⟩ : ∃ e, e = Fl.expo x := ⟨_, rfl⟩
  obtain ⟨f, hf⟩ : ∃ e, e = Fl.frac x := ⟨_, rfl⟩
  obtain ⟨k, hkk⟩ : ∃ e, e = Fl.kind x := ⟨_, rfl⟩
  obtain ⟨m, hm⟩ : ∃ e, e = Fl.mant x := ⟨_, rfl⟩
  obtain ⟨ex, hex⟩ : ∃ e, e = Fl.expn x := ⟨_, rfl⟩
  obtain ⟨s, hs⟩ : ∃ e, e = Fl.neg x := ⟨_, rfl⟩
  rw [← he, ← hf, ← hkk, ← hm, ← hex] at hp
  rw [← he] at hand1 he2
  rw [← hf] at hand2 hf2 hor
  rw [← hkk] at hK
  rw [← hs] at hn
  rw [← hm, ← hex, ← hs]
  have HK := Lib.hid hK
  clear he hf hkk hm hex hs hq hK
  rcases hp with ⟨h1, rfl, rfl⟩ | ⟨rfl, rfl, rfl⟩ | ⟨h1, rfl, rfl⟩
  · have h01 : k = 0 ∨ k = 1 := by omega
    rcases h01 with rfl | rfl
    all_goals (
      go_enter Tryz.func70, Tryz.ntmps70
      go_wp2_with (go_at_call 69; (with_reducible refine (HK.out _).mono ?_); rintro e w' ⟨rfl, rfl⟩)
      refine bodyPost_ret (v := .tuple #[.bool s, .int .u64 m, .int .i64 (-1074)]) (by simp [results, Tryz.results70, go_sem]) rfl (Ret0.of rfl))
  · go_enter Tryz.func70, Tryz.ntmps70
    go_wp2_with (go_at_call 69; (with_reducible refine (HK.out _).mono ?_); rintro e w' ⟨rfl, rfl⟩)
    refine bodyPost_ret (v := .tuple #[.bool s, .int .u64 ((4503599627370496 + f : Nat) : Int), .int .i64 ((e : Int) - 1075)]) (by simp [results, Tryz.results70, go_sem, hor]) rfl (Ret0.of rfl)
  · have b0 : ((k : Int) == 0) = false := by simp; omega
    have b1 : ((k : Int) == 1) = false := by simp; omega
    have b2 : ((k : Int) == 2) = false := by simp; omega
    go_enter Tryz.func70, Tryz.ntmps70
    go_wp2_with (go_at_call 69; (with_reducible refine (HK.out _).mono ?_); rintro e w' ⟨rfl, rfl⟩)
    refine bodyPost_ret (v := .tuple #[.bool s, .int .u64 0, .int .i64 0]) (by simp [results, Tryz.results70, go_sem]) rfl (Ret0.of rfl)

set_option maxHeartbeats 1000000 in
theorem r3_is_any (x : Nat) (w : World) : Calls Tryz.prog 94 #[.int .u64 x] w (Ret0 (.bool (Fl.neg x)) w) := by
  have hn := Fl.neg_int x
  go_enter Tryz.func94, Tryz.ntmps94
  go_wp2
  refine bodyPost_ret (v := .bool (Fl.neg x)) (by simp [results, Tryz.results94, go_sem, hn]) rfl (Ret0.of rfl)

set_option maxHeartbeats 1000000 in
theorem r3_split_any (x : Nat) (hx : x < 18446744073709551616) (w : World) : Calls Tryz.prog 27 #[.int .u64 x] w (Ret0 (.tuple #[.bool (Fl.neg x), .int .u64 (Fl.mant x : Nat), .int .i64 (Fl.expn x)]) w) := by
  have hp := Fl.parts x
  have he2 := Fl.expo_lt x
  have hf2 := Fl.frac_lt x
  have hK := r3_kind_any x hx
  have hI := r3_is_any x
  obtain ⟨e, he⟩ : ∃ e, e = Fl.expo x := ⟨_, rfl⟩
  obtain ⟨f, hf⟩ : ∃ e, e = Fl.frac x := ⟨_, rfl⟩
  obtain ⟨k, hkk⟩ : ∃ e, e = Fl.kind x := ⟨_, rfl⟩
  obtain ⟨m, hm⟩ : ∃ e, e = Fl.mant x := ⟨_, rfl⟩
  obtain ⟨ex, hex⟩ : ∃ e, e = Fl.expn x := ⟨_, rfl⟩
  obtain ⟨s, hs⟩ : ∃ e, e = Fl.neg x := ⟨_, rfl⟩
  have hei : (x : Int) / 4503599627370496 % 2048 = (e : Int) := by rw [he, Fl.expo]; omega
  have hfi : (x : Int) % 4503599627370496 = (f : Int) := by rw [hf, Fl.frac]; omega
  rw [← he, ← hf, ← hkk, ← hm, ← hex] at hp
  rw [← he] at he2
  rw [← hf] at hf2
  rw [← hkk] at hK
  rw [← hs] at hI
  rw [← hm, ← hex, ← hs]
  have HK := Lib.hid hK; have HI := Lib.hid hI
  clear he hf hkk hm hex hs hK hI
  rcases hp with ⟨h1, rfl, rfl⟩ | ⟨rfl, rfl, rfl⟩ | ⟨h1, rfl, rfl⟩
  · have h01 : k = 0 ∨ k = 1 := by omega
    rcases h01 with rfl | rfl
    all_goals (
      go_enter Tryz.func27, Tryz.ntmps27
      go_wp2_with (first | (go_at_call 19; (with_reducible refine (HK.out _).mono ?_); rintro e w' ⟨rfl, rfl⟩) | (go_at_call 94; (with_reducible refine (HI.out _).mono ?_); rintro e w' ⟨rfl, rfl⟩))
      refine bodyPost_ret (v := .tuple #[.bool s, .int .u64 m, .int .i64 (-1074)]) (by simp [results, Tryz.results27, go_sem, hfi]) rfl (Ret0.of rfl))
  · go_enter Tryz.func27, Tryz.ntmps27
    go_wp2_with (first | (go_at_call 19; (with_reducible refine (HK.out _).mono ?_); rintro e w' ⟨rfl, rfl⟩) | (go_at_call 94; (with_reducible refine (HI.out _).mono ?_); rintro e w' ⟨rfl, rfl⟩))
    refine bodyPost_ret (v := .tuple #[.bool s, .int .u64 ((4503599627370496 + f : Nat) : Int), .int .i64 ((e : Int) - 1075)]) (by simp [results, Tryz.results27, go_sem, hfi]) rfl (Ret0.of rfl)
  · have b0 : ((k : Int) == 0) = false := by simp; omega
    have b1 : ((k : Int) == 1) = false := by simp; omega
    have b2 : ((k : Int) == 2) = false := by simp; omega
    go_enter Tryz.func27, Tryz.ntmps27
    go_wp2_with (first | (go_at_call 19; (with_reducible refine (HK.out _).mono ?_); rintro e w' ⟨rfl, rfl⟩) | (go_at_call 94; (with_reducible refine (HI.out _).mono ?_); rintro e w' ⟨rfl, rfl⟩))
    refine bodyPost_ret (v := .tuple #[.bool s, .int .u64 0, .int .i64 0]) (by simp [results, Tryz.results27, go_sem, hfi]) rfl (Ret0.of rfl)

end Go.Proofs.YtjnkbifafbjckaaGreatDoor

/- Shr: what is refused. -/
namespace Go.Proofs.YtjnkbifafbjckaaGreatDoor
set_option linter.all false
open Go.RowKit

/-- A list of the call's own, a bool and an error. -/
def GivesS (q : List Nat × Bool × Int) (w : World) (e : Ending) (w' : World) : Prop := ∃ a c, e = .returned (.tuple #[.slice a q.1.length c, .bool q.2.1, .int .i64 q.2.2]) ∧ Sl w' a c q.1 ∧ Own w' w.heap.size a q.1.length ∧ Below w.heap.size w w'
theorem gives_snil {q : List Nat × Bool × Int} {w w' : World} (b : Bool) (e : Int) (hq : q = ([], b, e)) (hb : Below w.heap.size w w') : GivesS q w (.returned (.tuple #[.slice none 0 0, .bool b, .int .i64 e])) w' := by
  rw [hq]; exact ⟨none, 0, rfl, Sl.nil _ _ _, Own.nil _ _ _, hb⟩

section
variable (a : Option Addr) (c : Nat) (l : List Nat) (n : Int) (w : World) (h : Sl w a c l) (hn : l.length ≤ 1000000) (hi : -9223372036854775808 ≤ n ∧ n ≤ 9223372036854775807)
include h hn hi

set_option maxHeartbeats 1000000 in
theorem na_shr_arg (h0 : n < 0) : Calls Tryz.prog 81 #[.slice a l.length c, .int .i64 n] w (GivesS (Na.shr l n) w) := by
  have e := Lib.hid (gives_snil false 1 (show Na.shr l n = ([], false, 1) from if_pos h0) (Below.refl w.heap.size w))
  go_enter Tryz.func81, Tryz.ntmps81
  go_wp2
  refine bodyPost_ret (v := .tuple #[.slice none 0 0, .bool false, .int .i64 1]) (by simp [results, Tryz.results81, go_sem]) rfl e.out

set_option maxHeartbeats 1000000 in
theorem na_shr_big (h0 : 0 ≤ n) (hb : Na.big l = true) : Calls Tryz.prog 81 #[.slice a l.length c, .int .i64 n] w (GivesS (Na.shr l n) w) := by
  have hB : Below w.heap.size w (w.alloc (Obj.cells #[Value.slice a l.length c] 85)) := (Below.refl _ _).alloc (Nat.le_refl _) _
  have e := Lib.hid (gives_snil false 2 (show Na.shr l n = ([], false, 2) by rw [Na.shr, if_neg (by omega), if_pos hb]) hB)
  have H1 := Lib.hid (na_over1_any h hn true hb)
  clear hb
  go_enter Tryz.func81, Tryz.ntmps81
  go_wp2_with (first | (go_at_call 137; (with_reducible refine (H1.out).mono ?_); rintro e w' ⟨rfl, rfl⟩))
  refine bodyPost_ret (v := .tuple #[.slice none 0 0, .bool false, .int .i64 2]) (by simp [results, Tryz.results81, go_sem]) rfl e.out
end
end Go.Proofs.YtjnkbifafbjckaaGreatDoor

/- Shr: nothing is left. -/
namespace Go.Proofs.YtjnkbifafbjckaaGreatDoor
set_option linter.all false
open Go.RowKit

set_option maxHeartbeats 1000000 in
theorem na_shr_all (a : Option Addr) (c : Nat) (l : List Nat) (n : Nat) (w : World) (h : Sl w a c l) (hn : l.length ≤ 1000000) (hi : n ≤ 9223372036854775807) (hb : Na.big l = false) (hp : (Na.cut l).length ≤ n / 32) :
    Calls Tryz.prog 81 #[.slice a l.length c, .int .i64 n] w (GivesS (Na.shr l n) w) := by
  have hB : Below w.heap.size w (w.alloc (Obj.cells #[Value.slice a l.length c] 85)) := (Below.refl _ _).alloc (Nat.le_refl _) _
  have H1 := Lib.hid (na_over1_any h hn false hb)
  have hl1 : (Na.cut l).length ≤ 256 := Nat.le_of_not_lt (of_decide_eq_false hb)
  have H4 := na_cut_any a c l _ (h.on hB) hn
  have S1 := h.cut
  have hv : Na.val l < 2 ^ n := by
    have h1 := Na.val_lt (Na.cut l) (Na.ok_cut l)
    rw [Na.val_cut, show Na.B ^ (Na.cut l).length = 2 ^ (32 * (Na.cut l).length) by rw [Nat.pow_mul]] at h1
    exact Nat.lt_of_lt_of_le h1 (Nat.pow_le_pow_right (by decide) (by omega))
  have hnil := Na.cut_nil_iff l
  have e2 := Lib.hid (show Na.shr l n = ([], decide (0 < (Na.cut l).length), 0) by
    rw [Na.shr, if_neg (by omega), hb, if_neg (by simp), Int.toNat_natCast, Nat.div_eq_of_lt hv, Nat.mod_eq_of_lt hv, Na.limbs_zero]
    congr 2
    apply decide_eq_decide.2
    rw [List.length_pos_iff, ne_eq, ne_eq, hnil])
  have hrt : Na.rt (Na.cut l) = (Na.cut l).length := by rw [Na.rt_cut]; rfl
  obtain ⟨q, hq⟩ : ∃ q, q = Na.cut l := ⟨_, rfl⟩
  rw [← hq] at H4 hl1 S1 hp e2 hrt
  obtain ⟨ln, hqn⟩ : ∃ n, q.length = n := ⟨_, rfl⟩
  have H5 := na_right_any a c q _ (S1.on hB) (by omega)
  rw [hrt, hqn] at H5
  rw [hqn] at H4 hl1 hp e2
  have H4' := Lib.hid H4; have H5' := Lib.hid H5
  obtain ⟨p, hpp⟩ : ∃ p, p = n / 32 := ⟨_, rfl⟩
  have hpi : (n : Int) / 32 = (p : Int) := by omega
  rw [← hpp] at hp
  have hmin : min (p : Int) (ln : Int) = (ln : Int) := by omega
  have hs1 : ln ≤ c := by have := S1.cap; omega
  clear hb hv hnil hq hqn H4 H5 hrt hpp S1
  go_enter Tryz.func81, Tryz.ntmps81
  go_wp2_with (first | (go_at_call 137; (with_reducible refine (H1.out).mono ?_); rintro e w' ⟨rfl, rfl⟩) | (go_at_call 138; (with_reducible refine (H4'.out).mono ?_); rintro e w' ⟨rfl, rfl⟩) | (go_at_call 139; (with_reducible refine (H5'.out).mono ?_); rintro e w' ⟨rfl, rfl⟩) | (at_make; refine mk_u32 rfl _ _ rfl _ _ 0 rfl rfl (by simp) (by simp) (by omega) ?_))
  intro w1 hK hgrow
  have HB1 := Lib.hid (hgrow.out _ _ hB (by simp [World.size_alloc]))
  clear hgrow hB hK
  go_wp2_with (first | (refine wpList_copy_nothing rfl _ _ 85 85 rfl 72 Tryz.underlying85 (by kernel_rfl) _ _ _ _ _ _ rfl rfl (by simp) ?_))
  all_goals exact bodyPost_ret (v := .tuple #[.slice none 0 0, .bool (decide (0 < ln)), .int .i64 0]) (by simp [results, Tryz.results81, go_sem]) rfl (gives_snil _ 0 e2.out HB1.out)
end Go.Proofs.YtjnkbifafbjckaaGreatDoor

/- Shr: limbs are left. -/
namespace Go.Proofs.YtjnkbifafbjckaaGreatDoor
set_option linter.all false
open Go.RowKit

def shrLoop (m s g : Nat) (X : List Nat) (w : World) (iv : Value) (wr : World) : Prop := ∃ (i : Nat) (o : List Nat), i ≤ m ∧ iv = .int .i64 i ∧ Hid (Blk wr g o) ∧ Hid (o.length = m) ∧ Hid (Na.OK o) ∧ Hid (o.drop i = X.drop i) ∧
  Hid (Na.val (o.take i) + Na.B ^ i * (Na.val (X.drop i) / 2 ^ s) = Na.val X / 2 ^ s) ∧ Hid (Below w.heap.size w wr)

theorem rt_pos (l : List Nat) : 0 < Na.rt l ↔ Na.val l ≠ 0 := by
  rw [Na.rt, List.length_pos_iff, ne_eq, ne_eq, Na.cut_nil_iff]

theorem Na.shr_step (X : List Nat) (i s x y : Nat) (hs : s < 32) (hi : i < X.length) (hx : X[i] = x) (hxl : x < 4294967296) (hy : ∃ r, Na.val (X.drop (i + 1)) = y + Na.B * r) (P V : Nat)
    (inv : P + Na.B ^ i * (Na.val (X.drop i) / 2 ^ s) = V) : P + Na.B ^ i * ((x + y * 4294967296) / 2 ^ s % 4294967296) + Na.B ^ (i + 1) * (Na.val (X.drop (i + 1)) / 2 ^ s) = V := by
  obtain ⟨r, hr⟩ := hy
  have h1 := Na.shr_head x y (Na.val (X.drop (i + 1))) r s hs hxl hr
  have h2 : Na.val (X.drop i) = x + Na.B * Na.val (X.drop (i + 1)) := by rw [List.drop_eq_getElem_cons hi, hx]; rfl
  rw [h2, h1] at inv
  rw [← inv, Nat.mul_add, Nat.pow_succ, Nat.mul_assoc (Na.B ^ i) Na.B, Nat.add_assoc]

theorem shrLoop.drew {m s g : Nat} {X : List Nat} {w : World} {iv : Value} {wr : World} (h : shrLoop m s g X w iv wr) (n : Nat) : shrLoop m s g X w iv (wr.drewN n) := by
  obtain ⟨i, o, h1, h2, h3, h4, h5, h6, h7, h8⟩ := h
  exact ⟨i, o, h1, h2, Lib.hid (show _ = _ from h3.out), h4, h5, h6, h7, Lib.hid (below_drewN' h8.out n)⟩
theorem Na.shr_set (X o : List Nat) (i v V s : Nat) (hi : i < o.length) (hd : o.drop i = X.drop i) (h : Na.val (o.take i) + Na.B ^ i * v + Na.B ^ (i + 1) * (Na.val (X.drop (i + 1)) / 2 ^ s) = V) :
    (o.set i v).drop (i + 1) = X.drop (i + 1) ∧ Na.val ((o.set i v).take (i + 1)) + Na.B ^ (i + 1) * (Na.val (X.drop (i + 1)) / 2 ^ s) = V := by
  constructor
  · rw [List.drop_set, if_pos (by omega)]
    have := congrArg (List.drop 1) hd
    rwa [List.drop_drop, List.drop_drop] at this
  · rw [Na.val_set_take o i v hi, h]
theorem Na.drop_get {X o : List Nat} {i j : Nat} (hd : o.drop i = X.drop i) (hj : i ≤ j) (ho : j < o.length) (hx : j < X.length) : o[j] = X[j] := by
  have h1 : (o.drop i)[j - i]? = (X.drop i)[j - i]? := by rw [hd]
  rw [List.getElem?_drop, List.getElem?_drop, show i + (j - i) = j by omega, List.getElem?_eq_getElem ho, List.getElem?_eq_getElem hx] at h1
  exact Option.some.inj h1

set_option maxHeartbeats 2000000 in
theorem na_shr_main (a : Option Addr) (c : Nat) (l : List Nat) (n : Nat) (w : World) (h : Sl w a c l) (hn : l.length ≤ 1000000) (hi : n ≤ 9223372036854775807) (hb : Na.big l = false) (hp : n / 32 < (Na.cut l).length) :
    Calls Tryz.prog 81 #[.slice a l.length c, .int .i64 n] w (GivesS (Na.shr l n) w) := by
  have hB : Below w.heap.size w (w.alloc (Obj.cells #[Value.slice a l.length c] 85)) := (Below.refl _ _).alloc (Nat.le_refl _) _
  have H1 := Lib.hid (na_over1_any h hn false hb)
  have hl1 : (Na.cut l).length ≤ 256 := Nat.le_of_not_lt (of_decide_eq_false hb)
  have H4 := na_cut_any a c l _ (h.on hB) hn
  have S1 := h.cut
  have hv := Na.val_cut (a := l)
  obtain ⟨q, hq⟩ : ∃ q, q = Na.cut l := ⟨_, rfl⟩
  rw [← hq] at H4 hl1 S1 hp hv
  obtain ⟨p, hpp⟩ : ∃ p, p = n / 32 := ⟨_, rfl⟩
  obtain ⟨s, hss⟩ : ∃ s, s = n % 32 := ⟨_, rfl⟩
  have hpi : (n : Int) / 32 = (p : Int) := by omega
  have hsi : (n : Int) % 32 = (s : Int) := by omega
  have hs32 : s < 32 := by omega
  have hnps : n = 32 * p + s := by omega
  rw [← hpp] at hp
  have hqtd := Na.val_take_drop q p (by omega)
  have hlo := Na.val_lt (q.take p) (Na.ok_take S1.ok p)
  rw [List.length_take, Nat.min_eq_left (by omega)] at hlo
  obtain ⟨hdiv, hmod⟩ := Na.shr_lost (Na.val (q.take p)) (Na.val (q.drop p)) p s hlo
  rw [← hqtd, ← hnps, hv] at hdiv hmod
  have e2 := Lib.hid (show Na.shr l n = (Na.limbs (Na.val (q.drop p) / 2 ^ s), decide (Na.val (q.take p) ≠ 0 ∨ Na.val (q.drop p) % 2 ^ s ≠ 0), 0) by
    rw [Na.shr, if_neg (by omega), hb, if_neg (by simp), Int.toNat_natCast, hdiv]
    congr 2
    exact decide_eq_decide.2 hmod)
  have H5 := na_right_any a c (q.take p) _ ((S1.on hB).take p) (by rw [List.length_take]; omega)
  rw [List.length_take, Nat.min_eq_left (by omega)] at H5
  obtain ⟨m, hqm⟩ : ∃ m, q.length = p + m := ⟨q.length - p, by omega⟩
  have hm0 : 0 < m := by omega
  rw [hqm] at H4 hl1
  obtain ⟨b, o, rfl, hbl, hcell⟩ := S1.plain (by omega)
  have hcap : p + m ≤ c := by have := S1.cap; omega
  obtain ⟨X, hX⟩ : ∃ X, X = q.drop p := ⟨_, rfl⟩
  have hXl : X.length = m := by rw [hX, List.length_drop]; omega
  have hXok : Na.OK X := by rw [hX]; exact Na.ok_drop S1.ok p
  have HCX := Lib.hid (show ∀ j v, (u32s X)[j]? = some v → w.cell? ⟨b, o + p + j, none⟩ = some v by
    intro j v hv
    have hj : j < X.length := by have := (List.getElem?_eq_some_iff.1 hv).1; rwa [u32s_len] at this
    rw [u32s_get X j hj] at hv
    have e := hcell (p + j) (by omega)
    rw [Nat.add_assoc, e, ← Option.some.inj hv]
    congr 3
    simp [hX])
  rw [← hX] at e2
  obtain ⟨r0, hr0⟩ : ∃ r, r = Na.rt (q.take p) := ⟨_, rfl⟩
  have hr1 : decide (Na.val (q.take p) ≠ 0 ∨ Na.val X % 2 ^ s ≠ 0) = (decide (0 < r0) || decide (Na.val X % 2 ^ s ≠ 0)) := by
    rw [hr0]; simp only [Bool.decide_or, rt_pos]
  rw [← hr0] at H5
  rw [hr1] at e2
  have H4' := Lib.hid H4; have H5' := Lib.hid H5
  have HXL := Lib.hid hXl; have HXO := Lib.hid hXok
  have hmin : min (p : Int) ((p : Int) + (m : Int)) = (p : Int) := by omega
  have hcp : ¬ c = p := by omega
  have hpm : ((p + m : Nat) : Int) = (p : Int) + (m : Int) := by simp
  clear hb hv hq hqtd hlo hdiv hmod H4 H5 hpp hss hnps hX hXl hXok hr0 hr1 hqm S1 hcell
  go_enter Tryz.func81, Tryz.ntmps81
  go_wp2_with (first | (go_at_call 137; (with_reducible refine (H1.out).mono ?_); rintro e w' ⟨rfl, rfl⟩) | (go_at_call 138; (with_reducible refine (H4'.out).mono ?_); rintro e w' ⟨rfl, rfl⟩) | (go_at_call 139; (with_reducible refine (H5'.out).mono ?_); rintro e w' ⟨rfl, rfl⟩) | (at_make; refine mk_u32 rfl _ _ rfl _ _ m rfl rfl (by omega) (by omega) (by omega) ?_))
  intro w1 hK hgrow
  have HB1 := Lib.hid (hgrow.out _ _ hB (by simp [World.size_alloc]))
  have hK' := Lib.hid (show Blk w1 (w.heap.size + 1) (List.replicate m 0) by have := hK.out; simpa [World.size_alloc] using this)
  clear hgrow hB hK
  go_wp2_with (first | (refine wpList_copy_splice rfl _ _ 85 85 rfl 72 Tryz.underlying85 (by kernel_rfl) _ _ _ _ _ _ rfl rfl (w.heap.size + 1) 0 (u32s (List.replicate m 0)) 72 hK'.out (u32s X) (by rw [u32s_len, HXL.out]; show _ = min _ _; omega) (fun h0 => ⟨rfl, _, rfl, fun j v hv => (by rw [add_own]; exact (HB1.out.cell (p := ⟨b, o + p + j, none⟩) hbl).trans (HCX.out j v hv))⟩) (by simp [u32s_len, HXL.out]) (u32s_one _) w.heap.size w HB1.out (by omega) ?_))
  intro w2 hg2 hB2
  have HG2 := Lib.hid (show Blk w2 (w.heap.size + 1) X by have := hg2.out; rwa [splice_all _ _ (by simp [u32s_len, HXL.out])] at this)
  have HB2 := Lib.hid hB2
  clear hg2 hB2 hK' HB1 HCX H1 H4' H5' h
  go_wp2_with fail
  have hx0 : 0 < X.length := by have := HXL.out; omega
  have cx := HG2.out.cell 0 hx0
  have hx0l : X[0]'hx0 < 4294967296 := HXO.out _ (List.getElem_mem hx0)
  obtain ⟨x0, hx0e⟩ : ∃ x, X[0]'hx0 = x := ⟨_, rfl⟩
  rw [hx0e] at cx hx0l
  obtain ⟨M, hM⟩ : ∃ M, M = 2 ^ s := ⟨_, rfl⟩
  have hM1 : 1 ≤ M := by rw [hM]; exact Nat.pow_pos (by decide)
  have hM2 : M ≤ 2147483648 := by rw [hM]; exact Nat.pow_le_pow_right (by decide) (show s ≤ 31 by omega)
  have hMi : ((2 : Int) ^ s) = (M : Int) := by rw [hM]; simp
  have HM := Lib.hid hM; have HX0 := Lib.hid hx0e; clear hM hx0e
  clear hmin hcp hpm hpi hm0
  have hand := Na.and_mask x0 s hx0l hs32
  obtain ⟨z0, hz0⟩ : ∃ z, z = x0 % 2 ^ s := ⟨_, rfl⟩
  rw [← hz0, ← HM.out, show ((M - 1 : Nat) : Int) = (M : Int) - 1 by omega] at hand
  have hvz : Na.val X % 2 ^ s = z0 := by
    rw [hz0, ← HX0.out]
    have e1 : Na.val X = X[0] + Na.B * Na.val (X.drop 1) := by
      conv => lhs; rw [← List.drop_zero (l := X), List.drop_eq_getElem_cons hx0]
      rfl
    rw [e1, show Na.B = 2 ^ s * 2 ^ (32 - s) by rw [← Nat.pow_add, show s + (32 - s) = 32 by omega], Nat.mul_assoc, Nat.add_mul_mod_self_left]
  rw [hvz] at e2
  have hdz : decide (z0 ≠ 0) = ((z0 : Int) != 0) := by
    rw [Bool.eq_iff_iff]; simp
  rw [hdz] at e2
  have HAtS := Lib.hid (show shrLoop m s (w.heap.size + 1) X w (.int .i64 ((0 : Nat) : Int)) w2 from ⟨0, X, Nat.zero_le _, rfl, HG2, HXL, HXO, Lib.hid rfl, Lib.hid (by simp [Na.val]), HB2⟩)
  clear hz0 hvz hdz HG2 HB2
  by_cases hr : 0 < r0
  all_goals
    first
    | (have hd : decide (0 < r0) = true := decide_eq_true hr
       rw [hd, Bool.true_or] at e2
       simp only [hd]
       clear hMi hand cx
       go_quiet (fail)
       clear hd
       have hMi : ((2 : Int) ^ s) = (M : Int) := by rw [HM.out]; simp
       go_wp2_with fail)
    | (have hd : decide (0 < r0) = false := decide_eq_false hr
       rw [hd, Bool.false_or] at e2
       simp only [hd]
       go_quiet (fail)
       clear hd hand cx
       go_wp2_with fail)
    go_loopw [67] (shrLoop m s (w.heap.size + 1) X w) (fun i _ => m - (intOf i).toNat)
    case atStart => exact HAtS.out.drew _
    case round =>
      clear HAtS
      obtain ⟨i, o2, hi, rfl, HBl, HOl, HOk, HDr, HInv, HBe⟩ := hrel
      by_cases hlt : i < m
      · have ho1 : i < o2.length := by have := HOl.out; omega
        have hx1 : i < X.length := by have := HXL.out; omega
        have co := HBl.out.cell i ho1
        have fo := HBl.out.frozen i
        have hxl : X[i]'hx1 < 4294967296 := HXO.out _ (List.getElem_mem hx1)
        obtain ⟨x, hxe⟩ : ∃ x, X[i]'hx1 = x := ⟨_, rfl⟩
        rw [Na.drop_get HDr.out (Nat.le_refl _) ho1 hx1] at co
        rw [hxe] at co hxl
        by_cases hlt2 : i + 1 < m
        · have ho2 : i + 1 < o2.length := by have := HOl.out; omega
          have hx2 : i + 1 < X.length := by have := HXL.out; omega
          have co2 := HBl.out.cell (i + 1) ho2
          have hyl : X[i + 1]'hx2 < 4294967296 := HXO.out _ (List.getElem_mem hx2)
          have HR := Lib.hid (show ∃ r, Na.val (X.drop (i + 1)) = X[i + 1] + Na.B * r from ⟨Na.val (X.drop (i + 1 + 1)), by rw [List.drop_eq_getElem_cons hx2]; rfl⟩)
          obtain ⟨y, hye⟩ : ∃ x, X[i + 1]'hx2 = x := ⟨_, rfl⟩
          rw [Na.drop_get HDr.out (Nat.le_succ _) ho2 hx2] at co2
          rw [hye] at co2 hyl HR
          have HS := Lib.hid (Na.shr_set X o2 i _ _ s ho1 HDr.out (Na.shr_step X i s x y hs32 hx1 hxe hxl HR.out _ _ HInv.out))
          have hor := Na.or_shift x y 32 (by omega) (by omega)
          have e32 : IntKind.u64.wrap ((y : Int) * 2 ^ 32) = (y : Int) * 4294967296 := by rw [show ((y : Int) * 2 ^ 32) = ((y * 4294967296 : Nat) : Int) by simp, Na.wrap_u64 _ (by omega)]; simp
          rw [e32] at hor
          have e33 : x + y * 2 ^ 32 = x + y * 4294967296 := rfl
          rw [e33] at hor
          have hs3 : x + y * 4294967296 < 18446744073709551616 := by omega
          have hor' : bits BinOp.or IntKind.u64 (x : Int) ((y : Int) * 4294967296) = ((x + y * 4294967296 : Nat) : Int) := hor
          obtain ⟨t, ht⟩ : ∃ t, t = x + y * 4294967296 := ⟨_, rfl⟩
          rw [← ht] at HS hor' hs3
          clear ht hor e32 e33 hxe hye
          go_wp2_with fail
          go_roundw
          case rel =>
            have hq : (t : Int) / (M : Int) % 4294967296 = ((t / 2 ^ s % 4294967296 : Nat) : Int) := by rw [← HM.out]; simp
            rw [hq]
            exact ⟨i + 1, o2.set i (t / 2 ^ s % 4294967296), by omega, by go_num, Lib.hid (HBl.out.set i _), Lib.hid (by rw [List.length_set]; exact HOl.out), Lib.hid (Na.ok_set HOk.out _ _ (Nat.mod_lt _ (by decide))), Lib.hid HS.out.1, Lib.hid HS.out.2, Lib.hid (by have hbe := HBe.out; (repeat (first | exact Below.refl _ _ | assumption | refine Below.setCell ?_ (by first | omega | (simp <;> omega)) _ | refine Below.alloc ?_ (by first | omega | (simp <;> omega)) _ | refine Below.drew ?_ | refine below_drewN' ?_ _)))⟩
          case measure => simp [intOf]; omega
        · have HS := Lib.hid (Na.shr_set X o2 i _ _ s ho1 HDr.out (Na.shr_step X i s x 0 hs32 hx1 hxe hxl ⟨0, by rw [List.drop_of_length_le (by have := HXL.out; omega)]; rfl⟩ _ _ HInv.out))
          obtain ⟨t, ht⟩ : ∃ t, t = x + 0 * 4294967296 := ⟨_, rfl⟩
          rw [← ht] at HS
          obtain rfl : t = x := by omega
          clear ht hxe
          go_wp2_with fail
          go_roundw
          case rel =>
            have hq : (t : Int) / (M : Int) % 4294967296 = ((t / 2 ^ s % 4294967296 : Nat) : Int) := by rw [← HM.out]; simp
            rw [hq]
            exact ⟨i + 1, o2.set i (t / 2 ^ s % 4294967296), by omega, by go_num, Lib.hid (HBl.out.set i _), Lib.hid (by rw [List.length_set]; exact HOl.out), Lib.hid (Na.ok_set HOk.out _ _ (Nat.mod_lt _ (by decide))), Lib.hid HS.out.1, Lib.hid HS.out.2, Lib.hid (by have hbe := HBe.out; (repeat (first | exact Below.refl _ _ | assumption | refine Below.setCell ?_ (by first | omega | (simp <;> omega)) _ | refine Below.alloc ?_ (by first | omega | (simp <;> omega)) _ | refine Below.drew ?_ | refine below_drewN' ?_ _)))⟩
          case measure => simp [intOf]; omega
      · obtain rfl : i = m := by omega
        have hv : Na.val o2 = Na.val X / 2 ^ s := by
          have := HInv.out
          rw [List.take_of_length_le (by have := HOl.out; omega), List.drop_of_length_le (by have := HXL.out; omega)] at this
          simpa [Na.val] using this
        have hcut : Na.cut o2 = Na.limbs (Na.val X / 2 ^ s) := by rw [Na.cut, hv]
        have hs3 := HBl.out.sl HOk.out (c := i) (by have := HOl.out; omega)
        have hc := na_cut_any (some ⟨w.heap.size + 1, 0, none⟩) i o2 wr hs3 (by have := HOl.out; omega)
        have hs4 := hs3.cut
        rw [HOl.out, hcut] at hc
        rw [hcut] at hs4
        have HC := Lib.hid hc; have HS4 := Lib.hid hs4
        clear hc hs4 hs3 hcut hv
        go_wp2_with (first | (go_at_call 138; (with_reducible refine (HC.out).mono ?_); rintro e w' ⟨rfl, rfl⟩))
        first
        | refine bodyPost_ret (v := .tuple #[.slice (some ⟨w.heap.size + 1, 0, none⟩) (Na.limbs (Na.val X / 2 ^ s)).length i, .bool true, .int .i64 0]) (by simp [results, Tryz.results81, go_sem]) rfl (by rw [e2.out]; exact ⟨_, _, rfl, HS4.out, HBl.out.own (by omega), HBe.out⟩)
        | refine bodyPost_ret (v := .tuple #[.slice (some ⟨w.heap.size + 1, 0, none⟩) (Na.limbs (Na.val X / 2 ^ s)).length i, .bool ((z0 : Int) != 0), .int .i64 0]) (by simp [results, Tryz.results81, go_sem]) rfl (by rw [e2.out]; exact ⟨_, _, rfl, HS4.out, HBl.out.own (by omega), HBe.out⟩)

theorem na_shr_any (a : Option Addr) (c : Nat) (l : List Nat) (n : Int) (w : World) (h : Sl w a c l) (hn : l.length ≤ 1000000) (hi : -9223372036854775808 ≤ n ∧ n ≤ 9223372036854775807) :
    Calls Tryz.prog 81 #[.slice a l.length c, .int .i64 n] w (GivesS (Na.shr l n) w) := by
  by_cases h0 : n < 0
  · exact na_shr_arg a c l n w h hn hi h0
  · cases hb : Na.big l with
    | true => exact na_shr_big a c l n w h hn hi (by omega) hb
    | false =>
      obtain ⟨n', rfl⟩ : ∃ x : Nat, n = x := ⟨n.toNat, by omega⟩
      by_cases hp : n' / 32 < (Na.cut l).length
      · exact na_shr_main a c l n' w h hn (by omega) hb hp
      · exact na_shr_all a c l n' w h hn (by omega) hb (by omega)
end Go.Proofs.YtjnkbifafbjckaaGreatDoor
