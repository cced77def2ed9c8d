/- Plain Lean: binary64 as bits: kind, sign, whole part, power of two; the decimal that n times a power of two is. -/
import Derived.Test.YtiglekomfgfilaaGreatDoorX5
namespace Go.Proofs.YtiglekomfgfilaaGreatDoor.Fl
set_option linter.all false
open Go
def expo (x : Nat) : Nat := x / 4503599627370496 % 2048
def frac (x : Nat) : Nat := x % 4503599627370496
def kind (x : Nat) : Nat := if expo x = 2047 then (if frac x = 0 then 3 else 4) else if 0 < expo x then 2 else if 0 < frac x then 1 else 0
def neg (x : Nat) : Bool := decide (9223372036854775808 ≤ x)
def mant (x : Nat) : Nat := if kind x = 2 then 4503599627370496 + frac x else if kind x < 2 then frac x else 0
def expn (x : Nat) : Int := if kind x = 2 then (expo x : Int) - 1075 else if kind x < 2 then -1074 else 0
theorem expo_lt (x : Nat) : expo x < 2048 := Nat.mod_lt _ (by decide)
theorem frac_lt (x : Nat) : frac x < 4503599627370496 := Nat.mod_lt _ (by decide)
theorem mant_lt (x : Nat) : mant x < 9007199254740992 := by
  have := frac_lt x
  unfold mant; split
  · omega
  · split <;> omega
theorem expn_bound (x : Nat) : -1074 ≤ expn x ∧ expn x ≤ 971 := by
  unfold expn
  split
  · rename_i h
    unfold kind at h
    have := expo_lt x
    split at h
    · split at h <;> omega
    · split at h
      · omega
      · split at h <;> omega
  · split <;> omega
def halve : Nat → Nat → Nat × Nat
  | 0, n => (n, 0)
  | k + 1, n => if n ≠ 0 ∧ n % 2 = 0 then halve k (n / 2) else (n, k + 1)
theorem halve_yes {k n : Nat} (h0 : n ≠ 0) (h : n % 2 = 0) : halve (k + 1) n = halve k (n / 2) := if_pos ⟨h0, h⟩
theorem halve_no {k n : Nat} (h : n = 0 ∨ n % 2 ≠ 0) : halve (k + 1) n = (n, k + 1) := if_neg (by omega)
theorem halve_le (k : Nat) : ∀ n, (halve k n).1 ≤ n ∧ (halve k n).2 ≤ k := by
  induction k with
  | zero => intro n; exact ⟨Nat.le_refl _, Nat.le_refl _⟩
  | succ k ih =>
    intro n
    by_cases h : n ≠ 0 ∧ n % 2 = 0
    · rw [halve_yes h.1 h.2]
      have := ih (n / 2)
      exact ⟨by omega, by omega⟩
    · rw [halve_no (by omega)]; exact ⟨Nat.le_refl _, Nat.le_refl _⟩
theorem halve_eq (k : Nat) : ∀ n, (halve k n).1 * 2 ^ k = n * 2 ^ (halve k n).2 := by
  induction k with
  | zero => intro n; rfl
  | succ k ih =>
    intro n
    by_cases h : n ≠ 0 ∧ n % 2 = 0
    · rw [halve_yes h.1 h.2, Nat.pow_succ, ← Nat.mul_assoc, ih (n / 2), Nat.mul_right_comm, show n / 2 * 2 = n by omega]
    · rw [halve_no (by omega)]
def dv (r : Dc.Res) : Value := .agg #[.bool r.n, .string ⟨r.l.toArray⟩, .int .i64 r.x]
def of (s : Bool) (n : Nat) (e : Int) : Dc.Res :=
  if 0 ≤ e then Dc.mk s (Lib.decDigits (n * 2 ^ e.toNat)) 0 else Dc.mk s (Lib.decDigits ((halve (-e).toNat n).1 * 5 ^ (halve (-e).toNat n).2)) (-((halve (-e).toNat n).2 : Int))
def okd (r : Dc.Res) : Dc.Res := ⟨r.n, r.l, r.x, 0⟩
def dec (x : Nat) : Dc.Res := if 3 ≤ kind x then ⟨false, [], 0, 11⟩ else okd (of (neg x) (mant x) (expn x))
def sig (x : Nat) (k way : Int) : Dc.Res := if 3 ≤ kind x then ⟨false, [], 0, 11⟩ else Dc.sig (dec x).n (dec x).l (dec x).x k way
def place (x : Nat) (k way : Int) : Dc.Res := if 3 ≤ kind x then ⟨false, [], 0, 11⟩ else Dc.place (dec x).n (dec x).l (dec x).x k way
theorem pow_le_B (a k : Nat) (ha : a ≤ 8) (hk : k ≤ 1200) : a ^ k ≤ Na.B ^ 120 := by
  have h1 : a ^ k ≤ (2 ^ 3) ^ k := Nat.pow_le_pow_left (by omega) _
  rw [← Nat.pow_mul] at h1
  obtain ⟨c, hc⟩ : ∃ c, c = 120 := ⟨_, rfl⟩
  have h2 : (2 : Nat) ^ (3 * k) ≤ 2 ^ (32 * c) := Nat.pow_le_pow_right (by decide) (by omega)
  rw [Nat.pow_mul 2 32 c, hc] at h2
  exact Nat.le_trans h1 h2
theorem mul_pow_lt (n a k : Nat) (hn : n < Na.B ^ 2) (ha : a ≤ 8) (hk : k ≤ 1200) : n * a ^ k < Na.B ^ 122 := by
  have h1 := pow_le_B a k ha hk
  have h2 : 0 < Na.B ^ 120 := Nat.pow_pos (by decide)
  calc n * a ^ k ≤ n * Na.B ^ 120 := Nat.mul_le_mul_left _ h1
    _ < Na.B ^ 2 * Na.B ^ 120 := Nat.mul_lt_mul_of_pos_right hn h2
    _ = Na.B ^ 122 := by rw [← Nat.pow_add]
theorem len_mul_pow (n a k : Nat) (hn : n < Na.B ^ 2) (ha : a ≤ 8) (hk : k ≤ 1200) : (Na.limbs (n * a ^ k)).length ≤ 122 := Na.limbs_len_le _ _ (mul_pow_lt n a k hn ha hk)
end Go.Proofs.YtiglekomfgfilaaGreatDoor.Fl

/- Plain Lean: a number's digits are read as the number. -/
namespace Go.Proofs.YtiglekomfgfilaaGreatDoor.Na
set_option linter.all false
open Go
theorem dig_byte (r : Nat) (h : r < 10) : isD (UInt8.ofNat (48 + r)) = true ∧ (UInt8.ofNat (48 + r)).toNat - 48 = r ∧ (r ≠ 0 → UInt8.ofNat (48 + r) ≠ 48) := by
  have e : (UInt8.ofNat (48 + r)).toNat = 48 + r := by rw [UInt8.toNat_ofNat']; exact Nat.mod_eq_of_lt (by omega)
  refine ⟨by simp only [isD, e, Bool.and_eq_true, decide_eq_true_eq]; omega, by rw [e]; omega, fun h0 e2 => ?_⟩
  have := congrArg UInt8.toNat e2
  rw [e] at this
  have h48 : (48 : UInt8).toNat = 48 := rfl
  omega
theorem num_snoc (t : List UInt8) (c : UInt8) : num (t ++ [c]) = 10 * num t + (c.toNat - 48) := by rw [num, List.foldl_append]; rfl
theorem dec_spec (n : Nat) : (Lib.decDigits n).all isD = true ∧ num (Lib.decDigits n) = n ∧ 0 < (Lib.decDigits n).length ∧ (n ≠ 0 → (Lib.decDigits n)[0]? ≠ some 48) ∧ (n = 0 → (Lib.decDigits n).length = 1) := by
  induction n using Nat.strongRecOn with
  | _ n ih =>
    by_cases h : n < 10
    · rw [Lib.decDigits, dif_pos h]
      obtain ⟨h1, h2, h3⟩ := dig_byte n h
      obtain ⟨c, hc⟩ : ∃ c, c = UInt8.ofNat (48 + n) := ⟨_, rfl⟩
      rw [← hc] at h1 h2 h3 ⊢
      refine ⟨by simp [h1], by simp [num, h2], by simp, fun h0 e => h3 h0 ?_, fun _ => rfl⟩
      simpa using e
    · obtain ⟨i1, i2, i3, i4, _⟩ := ih (n / 10) (by omega)
      obtain ⟨h1, h2, _⟩ := dig_byte (n % 10) (by omega)
      rw [Lib.decDigits, dif_neg h]
      obtain ⟨c, hc⟩ : ∃ c, c = UInt8.ofNat (48 + n % 10) := ⟨_, rfl⟩
      rw [← hc] at h1 h2 ⊢
      refine ⟨by rw [List.all_append, i1]; simp [h1], by rw [num_snoc, i2, h2]; omega, by simp, fun _ => ?_, fun h0 => by omega⟩
      rw [List.getElem?_append_left i3]
      exact i4 (by omega)
theorem bitLen_half {y : Nat} (h : y ≠ 0) : bitLen y = bitLen (y / 2) + 1 := by
  rw [bitLen, if_neg h, bitLen]
  by_cases h1 : y / 2 = 0
  · have : y = 1 := by omega
    subst this; rfl
  · rw [if_neg h1, Nat.log2_def y, if_pos (by omega)]
theorem bitLen_pos' {y : Nat} (h : y ≠ 0) : 0 < bitLen y := by rw [bitLen, if_neg h]; exact Nat.succ_pos _
theorem bitLen_le' {n k : Nat} (h : n < 2 ^ k) : bitLen n ≤ k := by
  by_cases h0 : n = 0
  · subst h0; exact Nat.zero_le _
  · rw [bitLen, if_neg h0]
    exact (Nat.log2_lt h0).2 h
theorem val_drop_at (q : List Nat) (m : Nat) (h : m < q.length) : val (q.drop m) = q[m] + B * val (q.drop (m + 1)) := by
  rw [List.drop_eq_getElem_cons h]; rfl
end Go.Proofs.YtiglekomfgfilaaGreatDoor.Na

/- Plain Lean: the binary64 that is nearest: the values of the bits, in units of 2 to the power of -1074, and the rounding of n times 2^e. -/
namespace Go.Proofs.YtiglekomfgfilaaGreatDoor.Fl
set_option linter.all false
open Go
def low : Nat := 1074
def V (b : Nat) : Nat := (if b / 4503599627370496 = 0 then b % 4503599627370496 else 4503599627370496 + b % 4503599627370496) * 2 ^ (b / 4503599627370496 - 1)
theorem V_zero : V 0 = 0 := rfl
theorem V_form (j m : Nat) (h : j = 0 ∧ m ≤ 2 * 4503599627370496 ∨ 4503599627370496 ≤ m ∧ m ≤ 2 * 4503599627370496) : V (j * 4503599627370496 + m) = m * 2 ^ j := by
  by_cases h1 : m < 4503599627370496
  · have hj : j = 0 := by omega
    subst hj
    rw [V, Nat.zero_mul, Nat.zero_add, Nat.div_eq_of_lt h1, if_pos rfl, Nat.mod_eq_of_lt h1]
  · by_cases h2 : m = 2 * 4503599627370496
    · have e1 : (j * 4503599627370496 + m) / 4503599627370496 = j + 2 := by rw [h2, ← Nat.add_mul]; exact Nat.mul_div_cancel _ (by decide)
      have e2 : (j * 4503599627370496 + m) % 4503599627370496 = 0 := by rw [h2, ← Nat.add_mul]; exact Nat.mul_mod_left _ _
      rw [V, e1, e2, if_neg (by omega), h2, show j + 2 - 1 = j + 1 by omega, Nat.pow_succ, Nat.add_zero, Nat.mul_comm (2 ^ j) 2, ← Nat.mul_assoc, Nat.mul_comm 4503599627370496 2]
    · have e1 : (j * 4503599627370496 + m) / 4503599627370496 = j + 1 := by
        rw [Nat.mul_comm, Nat.mul_add_div (by decide)]
        congr 1
        exact Nat.div_eq_of_lt_le (by omega) (by omega)
      have e2 : (j * 4503599627370496 + m) % 4503599627370496 = m - 4503599627370496 := by
        rw [Nat.mul_comm, Nat.mul_add_mod, Nat.mod_eq_sub_mod (by omega), Nat.mod_eq_of_lt (by omega)]
      rw [V, e1, e2, if_neg (by omega), show 4503599627370496 + (m - 4503599627370496) = m by omega, Nat.add_sub_cancel]
theorem V_split (b : Nat) : ∃ j m, b = j * 4503599627370496 + m ∧ (j = 0 ∧ m < 4503599627370496 ∨ 4503599627370496 ≤ m ∧ m < 2 * 4503599627370496) ∧ V b = m * 2 ^ j ∧ V (b + 1) = (m + 1) * 2 ^ j ∧ j = b / 4503599627370496 - 1 := by
  have h := Nat.div_add_mod b 4503599627370496
  have hm := Nat.mod_lt b (show 0 < 4503599627370496 by decide)
  by_cases h0 : b / 4503599627370496 = 0
  · rw [h0, Nat.mul_zero, Nat.zero_add] at h
    refine ⟨0, b, by omega, Or.inl ⟨rfl, by omega⟩, ?_, ?_, by omega⟩
    · have := V_form 0 b (Or.inl ⟨rfl, by omega⟩); rwa [Nat.zero_mul, Nat.zero_add] at this
    · have := V_form 0 (b + 1) (Or.inl ⟨rfl, by omega⟩); rwa [Nat.zero_mul, Nat.zero_add] at this
  · obtain ⟨j, hj⟩ : ∃ j, b / 4503599627370496 = j + 1 := ⟨b / 4503599627370496 - 1, by omega⟩
    rw [hj, Nat.mul_add, Nat.mul_one] at h
    have hb : b = j * 4503599627370496 + (4503599627370496 + b % 4503599627370496) := by rw [Nat.mul_comm j]; omega
    refine ⟨j, 4503599627370496 + b % 4503599627370496, hb, Or.inr ⟨by omega, by omega⟩, ?_, ?_, by omega⟩
    · have := V_form j (4503599627370496 + b % 4503599627370496) (Or.inr ⟨by omega, by omega⟩); rwa [← hb] at this
    · have := V_form j (4503599627370496 + b % 4503599627370496 + 1) (Or.inr ⟨by omega, by omega⟩); rwa [← Nat.add_assoc, ← hb] at this
theorem V_succ (b : Nat) : V b < V (b + 1) := by
  obtain ⟨j, m, _, _, h1, h2, _⟩ := V_split b
  rw [h1, h2]
  exact Nat.mul_lt_mul_of_pos_right (by omega) (Nat.pow_pos (by decide))
theorem V_lt {a b : Nat} (h : a < b) : V a < V b := by
  induction b with
  | zero => omega
  | succ b ih =>
    by_cases e : a = b
    · subst e; exact V_succ a
    · exact Nat.lt_trans (ih (by omega)) (V_succ b)
theorem V_le {a b : Nat} (h : a ≤ b) : V a ≤ V b := by
  rcases Nat.eq_or_lt_of_le h with e | e
  · rw [e]; exact Nat.le_refl _
  · exact Nat.le_of_lt (V_lt e)
def Near (X D b : Nat) : Prop := b ≤ 9218868437227405312 ∧ (b = 0 ∨ (V (b - 1) + V b) * D < 2 * X ∨ (V (b - 1) + V b) * D = 2 * X ∧ b % 2 = 0) ∧ (b = 9218868437227405312 ∨ 2 * X < (V b + V (b + 1)) * D ∨ 2 * X = (V b + V (b + 1)) * D ∧ b % 2 = 0)
theorem near_lt {X D X' D' b b' : Nat} (hD : 0 < D) (hD' : 0 < D') (h : Near X D b) (h' : Near X' D' b') (hlt : b < b') : X * D' < X' * D ∨ X * D' = X' * D ∧ b + 1 = b' ∧ b % 2 = 0 ∧ b' % 2 = 0 := by
  obtain ⟨h1, -, h3⟩ := h
  obtain ⟨h1', h2', -⟩ := h'
  have hb : b ≠ 9218868437227405312 := by omega
  have hb' : b' ≠ 0 := by omega
  have hm : V b + V (b + 1) ≤ V (b' - 1) + V b' := Nat.add_le_add (V_le (by omega)) (V_le (by omega))
  have e1 : 2 * (X * D') ≤ (V b + V (b + 1)) * D * D' := by rw [← Nat.mul_assoc]; exact Nat.mul_le_mul_right _ (by rcases h3 with h | h | h <;> omega)
  have e2 : (V (b' - 1) + V b') * D' * D ≤ 2 * (X' * D) := by rw [← Nat.mul_assoc]; exact Nat.mul_le_mul_right _ (by rcases h2' with h | h | h <;> omega)
  have e3 : (V b + V (b + 1)) * D * D' ≤ (V (b' - 1) + V b') * D' * D := by
    rw [Nat.mul_right_comm (V (b' - 1) + V b'), Nat.mul_assoc, Nat.mul_assoc]; exact Nat.mul_le_mul_right _ hm
  by_cases hlt2 : X * D' < X' * D
  · exact Or.inl hlt2
  · right
    have heq : X * D' = X' * D := by omega
    have e1' : 2 * (X * D') = (V b + V (b + 1)) * D * D' := by omega
    have e2' : (V (b' - 1) + V b') * D' * D = 2 * (X' * D) := by omega
    have hDD : 0 < D * D' := Nat.mul_pos hD hD'
    have hmm : V b + V (b + 1) = V (b' - 1) + V b' := by
      have : (V b + V (b + 1)) * (D * D') = (V (b' - 1) + V b') * (D * D') := by
        rw [← Nat.mul_assoc, ← Nat.mul_assoc, Nat.mul_right_comm (V (b' - 1) + V b')]; omega
      exact Nat.eq_of_mul_eq_mul_right hDD this
    have hbb : b + 1 = b' := by
      rcases Nat.lt_or_ge (b + 1) b' with h | h
      · have k1 : V b < V (b' - 1) := V_lt (by omega)
        have k2 : V (b + 1) < V b' := V_lt h
        omega
      · omega
    refine ⟨heq, hbb, ?_, ?_⟩
    · rcases h3 with h | h | h
      · omega
      · exfalso
        have := Nat.mul_lt_mul_of_pos_right h hD'
        rw [Nat.mul_assoc] at this; omega
      · exact h.2
    · rcases h2' with h | h | h
      · omega
      · exfalso
        have := Nat.mul_lt_mul_of_pos_right h hD
        rw [Nat.mul_assoc 2] at this; omega
      · exact h.2
theorem near_eq {X D X' D' b b' : Nat} (hD : 0 < D) (hD' : 0 < D') (he : X * D' = X' * D) (h : Near X D b) (h' : Near X' D' b') : b = b' := by
  rcases Nat.lt_trichotomy b b' with e | e | e
  · rcases near_lt hD hD' h h' e with k | k <;> omega
  · exact e
  · rcases near_lt hD' hD h' h e with k | k <;> omega
theorem near_mono {X D X' D' b b' : Nat} (hD : 0 < D) (hD' : 0 < D') (he : X * D' ≤ X' * D) (h : Near X D b) (h' : Near X' D' b') : b ≤ b' := by
  rcases Nat.lt_or_ge b' b with e | e
  · rcases near_lt hD' hD h' h e with k | k <;> omega
  · exact e
theorem near_self {b D : Nat} (hb : b ≤ 9218868437227405312) (hD : 0 < D) : Near (V b * D) D b := by
  refine ⟨hb, ?_, Or.inr (Or.inl ?_)⟩
  · by_cases h : b = 0
    · exact Or.inl h
    · right; left
      have := Nat.mul_lt_mul_of_pos_right (V_lt (show b - 1 < b by omega)) hD
      rw [Nat.add_mul]; omega
  · have := Nat.mul_lt_mul_of_pos_right (V_succ b) hD
    rw [Nat.add_mul]; omega
theorem near_of {X D b : Nat} (hD : 0 < D) (h1 : V b * D ≤ X) (h2 : X < V (b + 1) * D) (up : Bool) (hup : up = decide ((V b + V (b + 1)) * D < 2 * X ∨ (V b + V (b + 1)) * D = 2 * X ∧ b % 2 = 1)) : Near X D (min (b + up.toNat) 9218868437227405312) := by
  by_cases hb : 9218868437227405312 ≤ b
  · rw [Nat.min_eq_right (by omega)]
    refine ⟨Nat.le_refl _, Or.inr (Or.inl ?_), Or.inl rfl⟩
    have k1 : V (9218868437227405312 - 1) < V 9218868437227405312 := V_lt (by decide)
    have k2 : V 9218868437227405312 ≤ V b := V_le hb
    have := Nat.mul_lt_mul_of_pos_right (show V (9218868437227405312 - 1) + V 9218868437227405312 < 2 * V b by omega) hD
    rw [Nat.mul_assoc] at this; omega
  · rw [Nat.min_eq_left (by cases up <;> simp <;> omega)]
    cases up with
    | true =>
      have hup' := of_decide_eq_true hup.symm
      refine ⟨by simp; omega, Or.inr ?_, ?_⟩
      · show (V (b + 1 - 1) + V (b + 1)) * D < 2 * X ∨ _
        rw [Nat.add_sub_cancel]
        rcases hup' with h | h
        · exact Or.inl h
        · exact Or.inr ⟨h.1, by show (b + 1) % 2 = 0; omega⟩
      · by_cases e : b + 1 = 9218868437227405312
        · exact Or.inl e
        · right; left
          show 2 * X < (V (b + 1) + V (b + 1 + 1)) * D
          have := Nat.mul_lt_mul_of_pos_right (V_succ (b + 1)) hD
          rw [Nat.add_mul]; omega
    | false =>
      have hup' := of_decide_eq_false hup.symm
      refine ⟨by simp; omega, ?_, Or.inr ?_⟩
      · by_cases e : b = 0
        · exact Or.inl e
        · right; left
          show (V (b - 1) + V b) * D < 2 * X
          have := Nat.mul_lt_mul_of_pos_right (V_lt (show b - 1 < b by omega)) hD
          rw [Nat.add_mul]; omega
      · show 2 * X < (V b + V (b + 1)) * D ∨ 2 * X = (V b + V (b + 1)) * D ∧ b % 2 = 0
        rcases Nat.lt_trichotomy (2 * X) ((V b + V (b + 1)) * D) with e | e | e
        · exact Or.inl e
        · exact Or.inr ⟨e, by rcases Nat.mod_two_eq_zero_or_one b with k | k; exact k; exact absurd (Or.inr ⟨e.symm, k⟩) hup'⟩
        · exact absurd (Or.inl e) hup'
end Go.Proofs.YtiglekomfgfilaaGreatDoor.Fl

/- Plain Lean: n times 2^e (and perhaps a little more), rounded to the nearest binary64. -/
namespace Go.Proofs.YtiglekomfgfilaaGreatDoor.Fl
set_option linter.all false
open Go
def ulp (n : Nat) (e : Int) : Int := max (e + (Na.bitLen n : Int) - 53) (-1074)
def upw (n k : Nat) (more : Bool) : Bool := decide (n / 2 ^ (k - 1) % 2 = 1) && (decide (n % 2 ^ (k - 1) ≠ 0) || more || decide (n / 2 ^ k % 2 = 1))
def rdm (n : Nat) (k : Int) (more : Bool) : Nat := if k ≤ 0 then n * 2 ^ (-k).toNat else n / 2 ^ k.toNat + (upw n k.toNat more).toNat
def rd (n : Nat) (e : Int) (more : Bool) : Nat := if n = 0 then 0 else min ((ulp n e + 1074).toNat * 4503599627370496 + rdm n (ulp n e - e) more) 9218868437227405312
theorem bitLen_ge {n : Nat} (h : n ≠ 0) : 2 ^ (Na.bitLen n - 1) ≤ n ∧ n < 2 ^ Na.bitLen n ∧ 0 < Na.bitLen n := by
  rw [Na.bitLen, if_neg h]
  exact ⟨by rw [Nat.add_sub_cancel]; exact Nat.log2_self_le h, Nat.lt_log2_self, Nat.succ_pos _⟩
theorem cancel_le {a b c : Nat} (hc : 0 < c) (h : a * c ≤ b * c) : a ≤ b := Nat.le_of_mul_le_mul_right h hc
theorem cancel_lt {a b c : Nat} (h : a * c < b * c) : a < b := Nat.lt_of_mul_lt_mul_right h
theorem mid_cmp {M n W Y : Nat} {more : Bool} (hW : 0 < W) (h0 : more = false → Y = n * W) (h1 : more = true → n * W < Y ∧ Y < (n + 1) * W) :
    (M * W < Y ↔ (if more then M ≤ n else M < n)) ∧ (M * W = Y ↔ more = false ∧ M = n) := by
  cases more with
  | false =>
    have e := h0 rfl
    subst e
    refine ⟨?_, ?_⟩
    · show M * W < n * W ↔ M < n
      exact ⟨fun h => Nat.lt_of_mul_lt_mul_right h, fun h => Nat.mul_lt_mul_of_pos_right h hW⟩
    · exact ⟨fun h => ⟨rfl, Nat.eq_of_mul_eq_mul_right hW h⟩, fun h => by rw [h.2]⟩
  | true =>
    obtain ⟨e1, e2⟩ := h1 rfl
    refine ⟨?_, ?_⟩
    · show M * W < Y ↔ M ≤ n
      constructor
      · intro h
        have := Nat.lt_of_mul_lt_mul_right (Nat.lt_trans h e2)
        omega
      · intro h
        exact Nat.lt_of_le_of_lt (Nat.mul_le_mul_right W h) e1
    · constructor
      · intro h
        exfalso
        rw [← h] at e1 e2
        have k1 := Nat.lt_of_mul_lt_mul_right e1
        have k2 := Nat.lt_of_mul_lt_mul_right e2
        omega
      · rintro ⟨h, _⟩; cases h
theorem upw_spec (n k m0 M : Nat) (more : Bool) (hk : 0 < k) (hm : m0 = n / 2 ^ k) (hM : M = (2 * m0 + 1) * 2 ^ (k - 1)) :
    upw n k more = decide ((if more then M ≤ n else M < n) ∨ (more = false ∧ M = n) ∧ m0 % 2 = 1) := by
  obtain ⟨c, rfl⟩ : ∃ c, k = c + 1 := ⟨k - 1, by omega⟩
  rw [Nat.add_sub_cancel] at hM
  unfold upw
  rw [Nat.add_sub_cancel, ← hm]
  have hp : 0 < 2 ^ c := Nat.pow_pos (by decide)
  have hm' : m0 = n / 2 ^ c / 2 := by rw [hm, Nat.pow_succ, Nat.div_div_eq_div_mul]
  have h1 := Nat.div_add_mod n (2 ^ c)
  have h2 := Nat.div_add_mod (n / 2 ^ c) 2
  have h3 := Nat.mod_lt n hp
  obtain ⟨t, ht⟩ : ∃ t, t = n / 2 ^ c := ⟨_, rfl⟩
  obtain ⟨r, hr⟩ : ∃ t, t = n % 2 ^ c := ⟨_, rfl⟩
  rw [← ht] at hm' h1 h2
  rw [← hr] at h1 h3
  rw [← ht, ← hr]
  by_cases hb : t % 2 = 1
  · have ht2 : t = 2 * m0 + 1 := by omega
    have hMn : M + r = n := by rw [hM, ← ht2, Nat.mul_comm]; exact h1
    rw [decide_eq_true hb, Bool.true_and]
    cases more with
    | true => simp; omega
    | false =>
      rw [Bool.or_false]
      by_cases hr0 : r = 0
      · have e1 : ¬ M < n := by omega
        have e2 : M = n := by omega
        simp [hr0, e1, e2]
      · have e1 : M < n := by omega
        simp [hr0, e1]
  · have ht2 : t = 2 * m0 := by omega
    have hMn : n < M := by
      rw [hM, Nat.add_mul, Nat.one_mul, ← ht2, Nat.mul_comm t]
      omega
    rw [decide_eq_false hb, Bool.false_and]
    symm
    apply decide_eq_false
    rintro (h | h)
    · cases more <;> simp at h <;> omega
    · omega
theorem rd_near {n : Nat} {e : Int} {more : Bool} {X D p q : Nat} (hD : 0 < D) (hpq : (p : Int) - q = e + 1074) (hmore : more = true → 54 ≤ Na.bitLen n)
    (h0 : more = false → X * 2 ^ q = n * 2 ^ p * D) (h1 : more = true → n * 2 ^ p * D < X * 2 ^ q ∧ X * 2 ^ q < (n + 1) * 2 ^ p * D) : Near X D (rd n e more) := by
  by_cases hn : n = 0
  · subst hn
    have hm : more = false := by
      cases more with
      | false => rfl
      | true => have := hmore rfl; simp [Na.bitLen] at this
    have hx := h0 hm
    rw [Nat.zero_mul, Nat.zero_mul] at hx
    have hX : X = 0 := (Nat.mul_eq_zero.1 hx).resolve_right (Nat.ne_of_gt (Nat.pow_pos (by decide)))
    rw [rd, if_pos rfl, hX]
    have := near_self (b := 0) (Nat.zero_le _) hD
    rwa [V_zero, Nat.zero_mul] at this
  · rw [rd, if_neg hn]
    obtain ⟨b1, b2, b3⟩ := bitLen_ge hn
    obtain ⟨L, hL⟩ : ∃ L, L = Na.bitLen n := ⟨_, rfl⟩
    rw [← hL] at b1 b2 b3 hmore
    obtain ⟨u, hu⟩ : ∃ u, u = ulp n e := ⟨_, rfl⟩
    have hu2 : u = max (e + (L : Int) - 53) (-1074) := by rw [hu, ulp, hL]
    rw [← hu]
    obtain ⟨j, hj⟩ : ∃ j : Nat, j = (u + 1074).toNat := ⟨_, rfl⟩
    rw [← hj]
    have hju : (j : Int) = u + 1074 := by omega
    have hq0 : 0 < 2 ^ q := Nat.pow_pos (by decide)
    have hp0 : 0 < 2 ^ p := Nat.pow_pos (by decide)
    have hW : 0 < 2 ^ p * D := Nat.mul_pos hp0 hD
    by_cases hk : u - e ≤ 0
    · have hm : more = false := by
        cases more with
        | false => rfl
        | true => have := hmore rfl; omega
      have hx := h0 hm
      obtain ⟨t, ht⟩ : ∃ t : Nat, t = (-(u - e)).toNat := ⟨_, rfl⟩
      rw [rdm, if_pos hk, ← ht]
      have hv : V (j * 4503599627370496 + n * 2 ^ t) = n * 2 ^ t * 2 ^ j := V_form _ _ (by
        have hlt : n * 2 ^ t < 2 ^ 53 := by
          have : n * 2 ^ t < 2 ^ L * 2 ^ t := Nat.mul_lt_mul_of_pos_right b2 (Nat.pow_pos (by decide))
          rw [← Nat.pow_add] at this
          exact Nat.lt_of_lt_of_le this (Nat.pow_le_pow_right (by decide) (by omega))
        by_cases hj0 : j = 0
        · exact Or.inl ⟨hj0, by omega⟩
        · right
          have hge : 2 ^ 52 ≤ n * 2 ^ t := by
            have : 2 ^ (L - 1) * 2 ^ t ≤ n * 2 ^ t := Nat.mul_le_mul_right _ b1
            rw [← Nat.pow_add] at this
            exact Nat.le_trans (Nat.pow_le_pow_right (by decide) (by omega)) this
          omega)
      obtain ⟨b, hb⟩ : ∃ b, b = j * 4503599627370496 + n * 2 ^ t := ⟨_, rfl⟩
      rw [← hb] at hv ⊢
      have hX : X = V b * D := by
        refine Nat.eq_of_mul_eq_mul_right hq0 ?_
        rw [hx, hv, Nat.mul_right_comm (n * 2 ^ t * 2 ^ j) D, Nat.mul_assoc n (2 ^ t), ← Nat.pow_add, Nat.mul_assoc n (2 ^ (t + j)), ← Nat.pow_add, show t + j + q = p by omega]
      have hs := V_succ b
      have hlt : V b * D < V (b + 1) * D := Nat.mul_lt_mul_of_pos_right hs hD
      have := near_of (X := X) hD (b := b) (by rw [hX]; exact Nat.le_refl _) (by rw [hX]; exact hlt) false (by
        symm; apply decide_eq_false
        rw [hX, Nat.add_mul]
        rintro (h | h)
        · omega
        · omega)
      exact this
    · obtain ⟨k, hk2⟩ : ∃ k : Nat, k = (u - e).toNat := ⟨_, rfl⟩
      rw [rdm, if_neg hk, ← hk2]
      have hk0 : 0 < k := by omega
      obtain ⟨m0, hm0⟩ : ∃ m, m = n / 2 ^ k := ⟨_, rfl⟩
      rw [← hm0]
      have hkp : 0 < 2 ^ k := Nat.pow_pos (by decide)
      have hform : j = 0 ∧ m0 < 4503599627370496 * 2 ∨ 4503599627370496 ≤ m0 ∧ m0 < 4503599627370496 * 2 := by
        have hlt : m0 < 2 ^ 53 := by
          rw [hm0, Nat.div_lt_iff_lt_mul hkp, ← Nat.pow_add]
          exact Nat.lt_of_lt_of_le b2 (Nat.pow_le_pow_right (by decide) (by omega))
        by_cases hj0 : j = 0
        · exact Or.inl ⟨hj0, by omega⟩
        · right
          have hge : 2 ^ 52 ≤ m0 := by
            rw [hm0, Nat.le_div_iff_mul_le hkp, ← Nat.pow_add]
            exact Nat.le_trans (Nat.pow_le_pow_right (by decide) (by omega)) b1
          omega
      have hv : V (j * 4503599627370496 + m0) = m0 * 2 ^ j := V_form _ _ (by omega)
      have hv1 : V (j * 4503599627370496 + m0 + 1) = (m0 + 1) * 2 ^ j := by rw [Nat.add_assoc]; exact V_form _ _ (by omega)
      have hjq : 2 ^ j * 2 ^ q = 2 ^ k * 2 ^ p := by rw [← Nat.pow_add, ← Nat.pow_add]; congr 1; omega
      obtain ⟨b, hb⟩ : ∃ b, b = j * 4503599627370496 + m0 := ⟨_, rfl⟩
      have hbo : b % 2 = m0 % 2 := by rw [hb]; omega
      rw [← hb] at hv hv1
      rw [← Nat.add_assoc, ← hb]
      have hle : m0 * 2 ^ k ≤ n := by rw [hm0]; exact Nat.div_mul_le_self _ _
      have hgt : n + 1 ≤ (m0 + 1) * 2 ^ k := by
        have := Nat.lt_div_mul_add (a := n) hkp
        rw [← hm0] at this
        rw [Nat.add_mul, Nat.one_mul]; omega
      have hY0 : n * (2 ^ p * D) ≤ X * 2 ^ q := by
        cases more with
        | false => rw [h0 rfl, Nat.mul_assoc]; exact Nat.le_refl _
        | true => have := (h1 rfl).1; rw [Nat.mul_assoc] at this; omega
      have hY1 : X * 2 ^ q < (n + 1) * (2 ^ p * D) := by
        cases more with
        | false => rw [h0 rfl, Nat.mul_assoc]; exact Nat.mul_lt_mul_of_pos_right (by omega) hW
        | true => have := (h1 rfl).2; rw [Nat.mul_assoc (n + 1)] at this; exact this
      have sc : ∀ z : Nat, z * 2 ^ j * D * 2 ^ q = z * 2 ^ k * (2 ^ p * D) := fun z => by
        rw [Nat.mul_right_comm _ D, Nat.mul_assoc z, hjq, ← Nat.mul_assoc, Nat.mul_assoc (z * 2 ^ k)]
      refine near_of hD ?_ ?_ _ ?_
      · rw [hv]
        refine cancel_le hq0 ?_
        rw [sc]
        exact Nat.le_trans (Nat.mul_le_mul_right _ hle) hY0
      · rw [hv1]
        refine cancel_lt (c := 2 ^ q) ?_
        rw [sc]
        exact Nat.lt_of_lt_of_le hY1 (Nat.mul_le_mul_right _ hgt)
      · obtain ⟨M, hM⟩ : ∃ M, M = (2 * m0 + 1) * 2 ^ (k - 1) := ⟨_, rfl⟩
        rw [upw_spec n k m0 M more hk0 hm0 hM]
        have hmid := mid_cmp (M := M) (n := n) (W := 2 ^ p * D) (Y := X * 2 ^ q) (more := more) hW (fun h => by rw [h0 h, Nat.mul_assoc]) (fun h => by
          have := h1 h; rwa [Nat.mul_assoc, Nat.mul_assoc] at this)
        have hVM : (V b + V (b + 1)) * D * 2 ^ q = 2 * (M * (2 ^ p * D)) := by
          rw [hv, hv1, ← Nat.add_mul, sc, hM, show m0 + (m0 + 1) = 2 * m0 + 1 by omega]
          rw [← Nat.mul_assoc 2, Nat.mul_comm 2 ((2 * m0 + 1) * 2 ^ (k - 1)), Nat.mul_assoc (2 * m0 + 1) (2 ^ (k - 1)), show 2 ^ (k - 1) * 2 = 2 ^ k by rw [← Nat.pow_succ]; congr 1; omega]
        apply decide_eq_decide.2
        rw [← hmid.1, ← hmid.2, ← hbo]
        have c1 : M * (2 ^ p * D) < X * 2 ^ q ↔ (V b + V (b + 1)) * D < 2 * X := by
          constructor
          · intro h
            refine cancel_lt (c := 2 ^ q) ?_
            rw [hVM, Nat.mul_assoc]; omega
          · intro h
            have := Nat.mul_lt_mul_of_pos_right h hq0
            rw [hVM, Nat.mul_assoc] at this; omega
        have c2 : M * (2 ^ p * D) = X * 2 ^ q ↔ (V b + V (b + 1)) * D = 2 * X := by
          constructor
          · intro h
            refine Nat.eq_of_mul_eq_mul_right hq0 ?_
            rw [hVM, Nat.mul_assoc, h]
          · intro h
            have := congrArg (· * 2 ^ q) h
            simp only [hVM, Nat.mul_assoc] at this
            rw [Nat.mul_assoc] at hVM
            omega
        rw [c1, c2]
end Go.Proofs.YtiglekomfgfilaaGreatDoor.Fl

/- Plain Lean: the number that a decimal is; which of two is greater. -/
namespace Go.Proofs.YtiglekomfgfilaaGreatDoor.Dc
set_option linter.all false
def nv (l : Bs) : Nat := l.foldl (fun a c => 10 * a + (c.toNat - 48)) 0
theorem nv_foldl (l : Bs) : ∀ a : Nat, l.foldl (fun a c => 10 * a + (c.toNat - 48)) a = a * 10 ^ l.length + nv l := by
  induction l with
  | nil => intro a; simp [nv]
  | cons c l ih =>
    intro a
    have e : nv (c :: l) = (10 * 0 + (c.toNat - 48)) * 10 ^ l.length + nv l := by rw [nv, List.foldl_cons, ih]
    rw [List.foldl_cons, ih, e, List.length_cons, Nat.pow_succ, Nat.mul_zero, Nat.zero_add, Nat.add_mul, Nat.add_assoc]
    congr 1
    rw [Nat.mul_comm 10 a, Nat.mul_assoc, Nat.mul_comm 10]
theorem nv_nil : nv [] = 0 := rfl
theorem nv_cons (c : UInt8) (l : Bs) : nv (c :: l) = (c.toNat - 48) * 10 ^ l.length + nv l := by
  rw [nv, List.foldl_cons, nv_foldl]; simp
theorem nv_app (a b : Bs) : nv (a ++ b) = nv a * 10 ^ b.length + nv b := by
  rw [nv, List.foldl_append, nv_foldl]; rfl
theorem dig_cons {c : UInt8} {l : Bs} (h : allDig (c :: l) = true) : (48 ≤ c.toNat ∧ c.toNat ≤ 57) ∧ allDig l = true := by
  refine ⟨dig_mem h (List.mem_cons_self ..), ?_⟩
  rw [allDig, List.all_cons, Bool.and_eq_true] at h; exact h.2
theorem nv_lt {l : Bs} (h : allDig l = true) : nv l < 10 ^ l.length := by
  induction l with
  | nil => simp [nv]
  | cons c l ih =>
    obtain ⟨hc, hl⟩ := dig_cons h
    have := ih hl
    rw [nv_cons, List.length_cons, Nat.pow_succ]
    have : (c.toNat - 48) * 10 ^ l.length ≤ 9 * 10 ^ l.length := Nat.mul_le_mul_right _ (by omega)
    omega
theorem nv_first {l : Bs} (h : allDig l = true) (hne : l ≠ []) (h0 : l[0]? ≠ some 48) : 10 ^ (l.length - 1) ≤ nv l := by
  cases l with
  | nil => exact absurd rfl hne
  | cons c l =>
    obtain ⟨hc, hl⟩ := dig_cons h
    have : c.toNat ≠ 48 := by intro e; apply h0; simp; exact UInt8.toNat_inj.1 (by simpa using e)
    rw [nv_cons, List.length_cons, Nat.add_sub_cancel]
    have : 1 * 10 ^ l.length ≤ (c.toNat - 48) * 10 ^ l.length := Nat.mul_le_mul_right _ (by omega)
    omega
theorem nv_last {l : Bs} (h : allDig l = true) (hne : l ≠ []) (h0 : l[l.length - 1]? ≠ some 48) : 0 < nv l := by
  have hs := List.dropLast_concat_getLast hne
  have hg : l[l.length - 1]? = some (l.getLast hne) := by
    rw [← List.getLast?_eq_getElem?, List.getLast?_eq_some_getLast hne]
  have hd := dig_mem h (List.getLast_mem hne)
  have : (l.getLast hne).toNat ≠ 48 := by intro e; apply h0; rw [hg]; exact congrArg some (UInt8.toNat_inj.1 (by simpa using e))
  rw [← hs, nv_app, nv_cons, nv_nil]
  simp; omega
def sg (a b : Nat) : Int := if a < b then -1 else if b < a then 1 else 0
theorem sg_lt {a b : Nat} (h : a < b) : sg a b = -1 := by rw [sg, if_pos h]
theorem sg_gt {a b : Nat} (h : b < a) : sg a b = 1 := by rw [sg, if_neg (by omega), if_pos h]
theorem sg_eq {a b : Nat} (h : a = b) : sg a b = 0 := by rw [sg, if_neg (by omega), if_neg (by omega)]
theorem sg_congr {a b c d : Nat} (h1 : a < b ↔ c < d) (h2 : b < a ↔ d < c) : sg a b = sg c d := by
  unfold sg; simp only [h1, h2]
def endOk (l : Bs) : Prop := l ≠ [] → l[l.length - 1]? ≠ some 48
theorem endOk_tail {c : UInt8} {l : Bs} (h : endOk (c :: l)) : endOk l := by
  intro hne
  have := h (by simp)
  cases l with
  | nil => exact absurd rfl hne
  | cons d l => simpa using this
theorem compare_nv (a : Bs) : ∀ (b : Bs) (N : Nat), allDig a = true → allDig b = true → endOk a → endOk b → a.length ≤ N → b.length ≤ N →
    Lib.compareBytes a b = sg (nv a * 10 ^ (N - a.length)) (nv b * 10 ^ (N - b.length)) := by
  induction a with
  | nil =>
    intro b N _ hb _ eb _ hlb
    cases b with
    | nil => rw [sg_eq rfl]; rfl
    | cons d b =>
      have := nv_last hb (by simp) (eb (by simp))
      rw [sg_lt]; rfl
      rw [nv_nil, Nat.zero_mul]
      exact Nat.mul_pos this (Nat.pos_of_ne_zero (by simp))
  | cons c a ih =>
    intro b N ha hb ea eb hla hlb
    cases b with
    | nil =>
      have := nv_last ha (by simp) (ea (by simp))
      rw [sg_gt]; rfl
      rw [nv_nil, Nat.zero_mul]
      exact Nat.mul_pos this (Nat.pos_of_ne_zero (by simp))
    | cons d b =>
      obtain ⟨hc, ha'⟩ := dig_cons ha
      obtain ⟨hd, hb'⟩ := dig_cons hb
      rw [List.length_cons] at hla hlb
      have key : ∀ (c : UInt8) (l : Bs), allDig l = true → l.length + 1 ≤ N → nv (c :: l) * 10 ^ (N - (l.length + 1)) = (c.toNat - 48) * 10 ^ (N - 1) + nv l * 10 ^ (N - 1 - l.length) ∧ nv l * 10 ^ (N - 1 - l.length) < 10 ^ (N - 1) := by
        intro c l hl hN
        have e : 10 ^ (N - 1) = 10 ^ l.length * 10 ^ (N - 1 - l.length) := by rw [← Nat.pow_add]; congr 1; omega
        refine ⟨?_, ?_⟩
        · rw [nv_cons, Nat.add_mul, show N - (l.length + 1) = N - 1 - l.length by omega, e, Nat.mul_assoc]
        · rw [e]; exact Nat.mul_lt_mul_of_pos_right (nv_lt hl) (Nat.pos_of_ne_zero (by simp))
      obtain ⟨k1, k2⟩ := key c a ha' hla
      obtain ⟨k3, k4⟩ := key d b hb' hlb
      rw [List.length_cons, List.length_cons, k1, k3, Lib.compareBytes]
      have hlt : ∀ x y : Nat, x < y → x * 10 ^ (N - 1) + 10 ^ (N - 1) ≤ y * 10 ^ (N - 1) := fun x y h => by
        have : (x + 1) * 10 ^ (N - 1) ≤ y * 10 ^ (N - 1) := Nat.mul_le_mul_right _ h
        rw [Nat.add_mul] at this; omega
      by_cases h1 : c < d
      · rw [if_pos h1, sg_lt]
        have h1' : c.toNat < d.toNat := h1
        have := hlt (c.toNat - 48) (d.toNat - 48) (by omega)
        omega
      · rw [if_neg h1]
        by_cases h2 : d < c
        · rw [if_pos h2, sg_gt]
          have h2' : d.toNat < c.toNat := h2
          have := hlt (d.toNat - 48) (c.toNat - 48) (by omega)
          omega
        · rw [if_neg h2]
          have : c.toNat = d.toNat := by
            have h1' : ¬ c.toNat < d.toNat := h1
            have h2' : ¬ d.toNat < c.toNat := h2
            omega
          rw [ih b (N - 1) ha' hb' (endOk_tail ea) (endOk_tail eb) (by omega) (by omega), this]
          exact sg_congr (by omega) (by omega)
def lift : Nat := 200000
def vv (l : Bs) (x : Int) : Nat := nv l * 10 ^ (x + lift).toNat
def sizeC (la : Bs) (xa : Int) (lb : Bs) (xb : Int) : Int :=
  if la = [] ∨ lb = [] then sg la.length lb.length
  else if (la.length : Int) + xa < lb.length + xb then -1
  else if (lb.length : Int) + xb < la.length + xa then 1
  else Lib.compareBytes la lb
theorem right_endOk {l : Bs} {x : Int} (h : right l x = true) : endOk l := by
  intro hne
  rw [right, if_neg hne] at h
  simp only [Bool.and_eq_true, bne_iff_ne] at h
  exact h.2.2.2.2.2
theorem right_head {l : Bs} {x : Int} (h : right l x = true) (hne : l ≠ []) : l[0]? ≠ some 48 := by
  rw [right, if_neg hne] at h
  simp only [Bool.and_eq_true, bne_iff_ne] at h
  exact h.2.2.2.2.1
theorem vv_bounds {l : Bs} {x : Int} (h : right l x = true) (hne : l ≠ []) : 10 ^ ((l.length : Int) + x - 1 + lift).toNat ≤ vv l x ∧ vv l x < 10 ^ ((l.length : Int) + x + lift).toNat := by
  have hx := right_exp h
  have hp : 0 < l.length := List.length_pos_iff.2 hne
  have h1 := nv_first (right_dig h) hne (right_head h hne)
  have h2 := nv_lt (right_dig h)
  unfold vv lift
  constructor
  · rw [show ((l.length : Int) + x - 1 + (200000 : Nat)).toNat = (l.length - 1) + (x + (200000 : Nat)).toNat by omega, Nat.pow_add]
    exact Nat.mul_le_mul_right _ h1
  · rw [show ((l.length : Int) + x + (200000 : Nat)).toNat = l.length + (x + (200000 : Nat)).toNat by omega, Nat.pow_add]
    exact Nat.mul_lt_mul_of_pos_right h2 (Nat.pos_of_ne_zero (by simp))
theorem vv_zero {x : Int} : vv [] x = 0 := by simp [vv, nv_nil]
theorem vv_pos {l : Bs} {x : Int} (h : right l x = true) (hne : l ≠ []) : 0 < vv l x :=
  Nat.lt_of_lt_of_le (Nat.pos_of_ne_zero (by simp)) (vv_bounds h hne).1
theorem sizeC_vv {la lb : Bs} {xa xb : Int} (ha : right la xa = true) (hb : right lb xb = true) : sizeC la xa lb xb = sg (vv la xa) (vv lb xb) := by
  have hxa := right_exp ha
  have hxb := right_exp hb
  unfold sizeC
  by_cases ea : la = []
  · rw [if_pos (.inl ea), ea, vv_zero]
    by_cases eb : lb = []
    · rw [eb, vv_zero]; rfl
    · rw [sg_lt (vv_pos hb eb), sg_lt (by simpa using List.length_pos_iff.2 eb)]
  · by_cases eb : lb = []
    · rw [if_pos (.inr eb), eb, vv_zero, sg_gt (vv_pos ha ea), sg_gt (by simpa using List.length_pos_iff.2 ea)]
    · rw [if_neg (by rintro (e | e); exact ea e; exact eb e)]
      have b1 := vv_bounds ha ea
      have b2 := vv_bounds hb eb
      have hpa : 0 < la.length := List.length_pos_iff.2 ea
      have hpb : 0 < lb.length := List.length_pos_iff.2 eb
      by_cases h1 : (la.length : Int) + xa < lb.length + xb
      · rw [if_pos h1, sg_lt]
        refine Nat.lt_of_lt_of_le b1.2 (Nat.le_trans (Nat.pow_le_pow_right (by decide) ?_) b2.1)
        unfold lift; omega
      · rw [if_neg h1]
        by_cases h2 : (lb.length : Int) + xb < la.length + xa
        · rw [if_pos h2, sg_gt]
          refine Nat.lt_of_lt_of_le b2.2 (Nat.le_trans (Nat.pow_le_pow_right (by decide) ?_) b1.1)
          unfold lift; omega
        · rw [if_neg h2]
          obtain ⟨P, hP⟩ : ∃ P : Nat, P = ((la.length : Int) + xa + lift).toNat := ⟨_, rfl⟩
          have e1 : (xa + lift).toNat = P - la.length := by rw [hP]; unfold lift; omega
          have e2 : (xb + lift).toNat = P - lb.length := by rw [hP]; unfold lift; omega
          unfold vv
          rw [e1, e2]
          exact compare_nv la lb P (right_dig ha) (right_dig hb) (right_endOk ha) (right_endOk hb) (by rw [hP]; unfold lift; omega) (by rw [hP]; unfold lift; omega)
theorem compareBytes_zero : ∀ {a b : Bs}, Lib.compareBytes a b = 0 → a = b
  | [], [], _ => rfl
  | [], _ :: _, h => by simp [Lib.compareBytes] at h
  | _ :: _, [], h => by simp [Lib.compareBytes] at h
  | a :: xs, b :: ys, h => by
    rw [Lib.compareBytes] at h
    split at h
    · cases h
    · split at h
      · cases h
      · rename_i h1 h2
        have : a = b := UInt8.toNat_inj.1 (by
          have h1' : ¬ a.toNat < b.toNat := h1
          have h2' : ¬ b.toNat < a.toNat := h2
          omega)
        rw [this, compareBytes_zero h]
theorem sg_zero {a b : Nat} (h : sg a b = 0) : a = b := by
  unfold sg at h
  split at h
  · cases h
  · split at h
    · cases h
    · omega
theorem vv_inj {la lb : Bs} {xa xb : Int} (ha : right la xa = true) (hb : right lb xb = true) (h : vv la xa = vv lb xb) : la = lb ∧ xa = xb := by
  have h1 := sizeC_vv ha hb
  rw [sg_eq h] at h1
  unfold sizeC at h1
  split at h1
  · rename_i e
    have h2 := sg_zero h1
    have e1 : la = [] := by
      rcases e with e | e
      · exact e
      · rw [e] at h2; simpa using h2
    have e2 : lb = [] := by rw [e1] at h2; exact List.length_eq_zero_iff.1 h2.symm
    subst e1 e2
    have a0 : xa = 0 := by simpa [right] using ha
    have b0 : xb = 0 := by simpa [right] using hb
    exact ⟨rfl, by omega⟩
  · split at h1
    · cases h1
    · split at h1
      · cases h1
      · have := compareBytes_zero h1
        subst this
        exact ⟨rfl, by omega⟩
def sv (n : Bool) (l : Bs) (x : Int) : Int := if n then -(vv l x : Int) else vv l x
end Go.Proofs.YtiglekomfgfilaaGreatDoor.Dc

/- Plain Lean: digits and one, place for place from behind. -/
namespace Go.Proofs.YtiglekomfgfilaaGreatDoor.Dc
set_option linter.all false
theorem rep_replicate (m : Nat) : Lib.repeatL [48] m = List.replicate m 48 := by
  induction m with
  | zero => rfl
  | succ m ih => rw [Lib.repeatL, ih, List.replicate_succ]; rfl
def rowAt (K : Bs) (j : Nat) : Bs := K.take j ++ List.replicate (K.length - j) 48
theorem rowAt_len (K : Bs) (j : Nat) (h : j ≤ K.length) : (rowAt K j).length = K.length := by simp [rowAt]; omega
theorem rowAt_all (K : Bs) : rowAt K K.length = K := by simp [rowAt]
theorem rowAt_get (K : Bs) (j i : Nat) (h : j ≤ K.length) (hi : i < j) : (rowAt K j)[i]? = K[i]? := by
  rw [rowAt, List.getElem?_append_left (by rw [List.length_take]; omega), List.getElem?_take_of_lt hi]
theorem rowAt_inc (K : Bs) (j : Nat) (h : 0 < j) (hj : j ≤ K.length) (c : UInt8) : (rowAt K j).set (j - 1) c = K.take (j - 1) ++ [c] ++ List.replicate (K.length - j) 48 := by
  have hs : K.take j = K.take (j - 1) ++ [K[j - 1]'(by omega)] := by
    conv => lhs; rw [show j = j - 1 + 1 by omega]
    rw [List.take_succ_eq_append_getElem (by omega)]
  have hl : (K.take (j - 1)).length = j - 1 := by rw [List.length_take]; omega
  rw [rowAt, hs, List.append_assoc, List.set_append_right _ _ (by omega), hl, Nat.sub_self]
  simp
theorem rowAt_set (K : Bs) (j : Nat) (h : 0 < j) (hj : j ≤ K.length) : (rowAt K j).set (j - 1) 48 = rowAt K (j - 1) := by
  rw [rowAt_inc K j h hj, rowAt, List.append_assoc, show K.length - (j - 1) = K.length - j + 1 by omega, List.replicate_succ]
  rfl
theorem no9_at (K : Bs) (j : Nat) (h : ∀ c ∈ K.drop j, c = 57) (h2 : ∀ c, (K.take j).getLast? = some c → c ≠ 57) : no9 K = K.take j := by
  rw [no9, Lib.trimRightB]
  conv => lhs; rw [← List.take_append_drop j K]
  rw [List.reverse_append, List.dropWhile_append_of_pos (fun c hc => by rw [h c (List.mem_reverse.1 hc)]; rfl)]
  cases hr : (K.take j).reverse with
  | nil => rw [List.dropWhile_nil]; have := List.reverse_eq_nil_iff.1 hr; rw [this]; rfl
  | cons c r =>
    have hh : (K.take j).getLast? = some c := by rw [List.getLast?_eq_head?_reverse, hr]; rfl
    rw [List.dropWhile_cons_of_neg (by simpa using h2 c hh), ← hr, List.reverse_reverse]
theorem more_nines (K : Bs) (h : ∀ c ∈ K, c = 57) : more K = 49 :: List.replicate K.length 48 := by
  have h1 := no9_at K 0 h (by simp)
  rw [List.take_zero] at h1
  rw [more_nil h1, h1, rep_replicate]; rfl
theorem more_at (K : Bs) (j : Nat) (h0 : 0 < j) (hj : j ≤ K.length) (h : ∀ c ∈ K.drop j, c = 57) (c : UInt8) (hc : K[j - 1]? = some c) (hne : c ≠ 57) : more K = (rowAt K j).set (j - 1) (c + 1) := by
  have hlast : (K.take j).getLast? = some c := by
    rw [List.getLast?_eq_getElem?, List.length_take, Nat.min_eq_left hj, List.getElem?_take_of_lt (by omega), hc]
  have h1 := no9_at K j h (fun d hd => by rw [hlast] at hd; rw [← Option.some.inj hd]; exact hne)
  have h2 : (no9 K).getLast? = some c := by rw [h1]; exact hlast
  rw [more_cons h2, h1, rowAt_inc K j h0 hj, rep_replicate, List.length_take, Nat.min_eq_left hj, List.dropLast_eq_take, List.length_take, Nat.min_eq_left hj, List.take_take, Nat.min_eq_left (by omega)]
theorem half_cases (c : UInt8) (t : Bs) : half (c :: t) = if 53 < c.toNat then 1 else if c.toNat = 53 then (if t = [] then 0 else 1) else -1 := by
  have e : ∀ a b : UInt8, (a < b) = (a.toNat < b.toNat) := fun a b => rfl
  simp only [half, Lib.compareBytes, e]
  have h53 : (53 : UInt8).toNat = 53 := rfl
  rw [h53]
  by_cases h1 : 53 < c.toNat
  · rw [if_pos h1, if_neg (by omega), if_pos h1]
  · rw [if_neg h1]
    by_cases h2 : c.toNat = 53
    · rw [if_pos h2, if_neg (by omega), if_neg (by omega)]
      cases t with
      | nil => rfl
      | cons d t => rfl
    · rw [if_neg h2, if_pos (by omega), if_neg h1]
end Go.Proofs.YtiglekomfgfilaaGreatDoor.Dc
