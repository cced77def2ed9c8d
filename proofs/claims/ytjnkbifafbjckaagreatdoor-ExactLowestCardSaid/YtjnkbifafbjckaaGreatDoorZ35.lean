/- Plain Lean: how the program reads a right decimal: by powers of 128 bits, by products, and exactly. -/
import Derived.Test.YtjnkbifafbjckaaGreatDoorZ34
import Derived.Test.YtjnkbifafbjckaaGreatDoorZ27
namespace Go.Proofs.YtjnkbifafbjckaaGreatDoor.Fl
set_option linter.all false
open Go

def n330 : Nat := 330
def n331 : Nat := 331
def n310 : Nat := 310
theorem bound_small2 : 2 * 2 ^ low ≤ 10 ^ n331 := by decide +kernel
theorem bound_big2 : 4503599627370496 * 2 ^ n2046 ≤ 10 ^ n310 * 2 ^ low := by decide +kernel
/-- What is far too small, or far too great, for a number: -330 and 310 places. -/
theorem bits_tiny {l : Dc.Bs} {x : Int} (h : Dc.right l x = true) (hne : l ≠ []) (hp : (l.length : Int) + x < -330) : bits l x = 0 := by
  have hx := (Dc.right_exp h).1
  refine (bits_eq hx ⟨by decide, Or.inl rfl, Or.inr (Or.inl ?_)⟩).symm
  have hv := (Dc.vv_bounds h hne).2
  have hl : Dc.lift = 200000 := rfl
  obtain ⟨c, hc⟩ : ∃ c, Dc.lift = c + n331 := ⟨Dc.lift - n331, by unfold n331; omega⟩
  have h4 : n331 = 331 := rfl
  have hv2 : Dc.vv l x < 10 ^ c := Nat.lt_of_lt_of_le hv (Nat.pow_le_pow_right (by decide) (by omega))
  rw [Nat.zero_add, V_zero, V_one, Nat.zero_add, Nat.one_mul, hc, Nat.pow_add]
  have h1 : 2 * (Dc.vv l x * 2 ^ low) = Dc.vv l x * (2 * 2 ^ low) := by rw [Nat.mul_left_comm]
  rw [h1]
  exact Nat.lt_of_le_of_lt (Nat.mul_le_mul_left _ bound_small2) (Nat.mul_lt_mul_of_pos_right hv2 (Nat.pow_pos (by decide)))
theorem bits_huge {l : Dc.Bs} {x : Int} (h : Dc.right l x = true) (hne : l ≠ []) (hp : 310 < (l.length : Int) + x) : bits l x = 9218868437227405312 := by
  have hx := (Dc.right_exp h).1
  refine (bits_eq hx ⟨Nat.le_refl _, Or.inr (Or.inl ?_), Or.inl rfl⟩).symm
  have hv := (Dc.vv_bounds h hne).1
  have hl : Dc.lift = 200000 := rfl
  have h4 : n310 = 310 := rfl
  have hv2 : 10 ^ n310 * 10 ^ Dc.lift ≤ Dc.vv l x := by
    rw [← Nat.pow_add]
    exact Nat.le_trans (Nat.pow_le_pow_right (by decide) (by omega)) hv
  have hlt : V (9218868437227405312 - 1) < V 9218868437227405312 := V_lt (by decide)
  have hD : 0 < 10 ^ Dc.lift := Nat.pow_pos (by decide)
  have h1 : (V (9218868437227405312 - 1) + V 9218868437227405312) * 10 ^ Dc.lift < 2 * (V 9218868437227405312) * 10 ^ Dc.lift := Nat.mul_lt_mul_of_pos_right (by omega) hD
  refine Nat.lt_of_lt_of_le h1 ?_
  rw [Nat.mul_assoc]
  refine Nat.mul_le_mul_left _ ?_
  rw [V_inf]
  refine Nat.le_trans (Nat.mul_le_mul_right _ bound_big2) ?_
  rw [Nat.mul_right_comm]
  exact Nat.mul_le_mul_right _ hv2

/-- A natural's last c bits may be dropped, if they are remembered. -/
theorem rd_cut {n c : Nat} {e : Int} {more : Bool} (h : 54 ≤ Na.bitLen (n / 2 ^ c)) : rd (n / 2 ^ c) (e + c) (more || decide (n % 2 ^ c ≠ 0)) = rd n e more := by
  have hlen : 54 ≤ Na.bitLen n := by
    have hc : 0 < 2 ^ c := Nat.pow_pos (by decide)
    have h0 : n / 2 ^ c ≠ 0 := by intro e0; rw [e0] at h; simp [Na.bitLen] at h
    obtain ⟨a1, -, -⟩ := bitLen_ge h0
    have h53 : 2 ^ 53 ≤ 2 ^ (Na.bitLen (n / 2 ^ c) - 1) := Nat.pow_le_pow_right (by decide) (by omega)
    have hle := Nat.div_le_self n (2 ^ c)
    rcases Nat.lt_or_ge (Na.bitLen n) 54 with h' | h'
    · obtain ⟨-, b2, -⟩ := bitLen_ge (n := n) (by omega)
      have : 2 ^ Na.bitLen n ≤ 2 ^ 53 := Nat.pow_le_pow_right (by decide) (by omega)
      omega
    · exact h'
  obtain ⟨p, q, hpq⟩ : ∃ p q : Nat, (p : Int) - q = e + 1074 := ⟨(e + 1074).toNat, (-(e + 1074)).toNat, by omega⟩
  have hq : 0 < 2 ^ q := Nat.pow_pos (by decide)
  have hp : 0 < 2 ^ p := Nat.pow_pos (by decide)
  have hD : 0 < 2 * 2 ^ q := by omega
  have hdm := Nat.div_add_mod n (2 ^ c)
  have hml := Nat.mod_lt n (show 0 < 2 ^ c from Nat.pow_pos (by decide))
  obtain ⟨N, hN⟩ : ∃ N, N = 2 * n + more.toNat := ⟨_, rfl⟩
  have key : ∀ a : Nat, a * 2 ^ p * (2 * 2 ^ q) = 2 * a * (2 ^ p * 2 ^ q) := fun a => by simp only [Nat.mul_assoc, Nat.mul_comm, Nat.mul_left_comm]
  have key2 : N * 2 ^ p * 2 ^ q = N * (2 ^ p * 2 ^ q) := Nat.mul_assoc _ _ _
  have hpp : 0 < 2 ^ p * 2 ^ q := Nat.mul_pos hp hq
  have n2 : Near (N * 2 ^ p) (2 * 2 ^ q) (rd n e more) := by
    refine rd_near hD hpq (fun _ => hlen) (fun hm => ?_) (fun hm => ?_)
    · rw [key, key2, hN, hm]; rfl
    · rw [key, key, key2, hN, hm]
      exact ⟨Nat.mul_lt_mul_of_pos_right (by show 2 * n < 2 * n + 1; omega) hpp, Nat.mul_lt_mul_of_pos_right (by show 2 * n + 1 < _; omega) hpp⟩
  have n1 : Near (N * 2 ^ p) (2 * 2 ^ q) (rd (n / 2 ^ c) (e + c) (more || decide (n % 2 ^ c ≠ 0))) := by
    have key3 : ∀ a : Nat, a * 2 ^ (p + c) * (2 * 2 ^ q) = 2 * (2 ^ c * a) * (2 ^ p * 2 ^ q) := fun a => by rw [Nat.pow_add]; simp only [Nat.mul_assoc, Nat.mul_comm, Nat.mul_left_comm]
    refine rd_near (p := p + c) (q := q) hD (by omega) (fun _ => h) (fun hm => ?_) (fun hm => ?_)
    · rw [Bool.or_eq_false_iff] at hm
      have h0 : n % 2 ^ c = 0 := by have := of_decide_eq_false hm.2; omega
      rw [key3, key2, hN, hm.1, show 2 ^ c * (n / 2 ^ c) = n by omega]; rfl
    · rw [key3, key3, key2]
      have hmore : more = true ∨ n % 2 ^ c ≠ 0 := by
        rw [Bool.or_eq_true] at hm
        exact hm.imp id of_decide_eq_true
      have hNb : 2 * n ≤ N ∧ N ≤ 2 * n + 1 ∧ (more = true → N = 2 * n + 1) := by
        rw [hN]; cases more <;> simp
      refine ⟨Nat.mul_lt_mul_of_pos_right ?_ hpp, Nat.mul_lt_mul_of_pos_right ?_ hpp⟩
      · rcases hmore with h1 | h1
        · have := hNb.2.2 h1; omega
        · omega
      · rw [Nat.mul_add, Nat.mul_one, Nat.mul_add]; omega
  exact near_eq hD hD rfl n1 n2

/-- A power of ten as a fraction A / B. -/
def tenA (x : Int) : Nat := if 0 ≤ x then 10 ^ x.toNat else 1
def tenB (x : Int) : Nat := if 0 ≤ x then 1 else 10 ^ (-x).toNat
theorem tenB_pos (x : Int) : 0 < tenB x := by
  unfold tenB; split
  · decide
  · exact Nat.pow_pos (by decide)
theorem near_ten {l : Dc.Bs} {x : Int} (hx : -100000 ≤ x) : Near (Dc.nv l * tenA x * 2 ^ low) (tenB x) (bits l x) := by
  have h := (near_scale hx).1 (bits_near l x hx)
  unfold tenA tenB
  by_cases h0 : 0 ≤ x
  · rw [if_pos h0] at h; rw [if_pos h0, if_pos h0]; exact h
  · rw [if_neg h0] at h; rw [if_neg h0, if_neg h0, Nat.mul_one]; exact h
/-- P times 2^e is the power of ten, or lies below it by less than 2^e. -/
structure Pw (x : Int) (P : Nat) (e : Int) (all : Bool) : Prop where
  sure : all = true → ∀ p q : Nat, (p : Int) - q = e → P * 2 ^ p * tenB x = tenA x * 2 ^ q
  low : ∀ p q : Nat, (p : Int) - q = e → P * 2 ^ p * tenB x ≤ tenA x * 2 ^ q
  high : ∀ p q : Nat, (p : Int) - q = e → tenA x * 2 ^ q ≤ (P + 1) * 2 ^ p * tenB x
theorem rd_self (n : Nat) (e : Int) (p q : Nat) (h : (p : Int) - q = e) : Near (n * 2 ^ (p + low)) (2 ^ q) (rd n e false) :=
  rd_near (p := p + low) (q := q) (Nat.pow_pos (by decide)) (by unfold low; omega) (fun h => by cases h) (fun _ => rfl) (fun h => by cases h)
/-- The quick road: both ends are rounded alike. -/
theorem quick_near {l : Dc.Bs} {x : Int} {m P : Nat} {e : Int} {all : Bool} (hx : -100000 ≤ x) (hm : Dc.nv l = m) (hp : Pw x P e all) (h : all = true ∨ rd (P * m + m) e false = rd (P * m) e false) : rd (P * m) e false = bits l x := by
  obtain ⟨p, q, hpq⟩ : ∃ p q : Nat, (p : Int) - q = e := ⟨e.toNat, (-e).toNat, by omega⟩
  have hn := near_ten (l := l) hx
  rw [hm] at hn
  have h1 := rd_self (P * m) e p q hpq
  have h2 := rd_self (P * m + m) e p q hpq
  have hq : 0 < 2 ^ q := Nat.pow_pos (by decide)
  have k1 : ∀ N : Nat, N * m * 2 ^ (p + low) * tenB x = N * 2 ^ p * tenB x * (m * 2 ^ low) := fun N => by rw [Nat.pow_add]; simp only [Nat.mul_assoc, Nat.mul_comm, Nat.mul_left_comm]
  have k2 : m * tenA x * 2 ^ low * 2 ^ q = tenA x * 2 ^ q * (m * 2 ^ low) := by simp only [Nat.mul_assoc, Nat.mul_comm, Nat.mul_left_comm]
  rcases h with h | h
  · exact near_eq hq (tenB_pos x) (by rw [k1, k2, hp.sure h p q hpq]) h1 hn
  · have a1 := near_mono hq (tenB_pos x) (by rw [k1, k2]; exact Nat.mul_le_mul_right _ (hp.low p q hpq)) h1 hn
    have a2 := near_mono (tenB_pos x) hq (by
      rw [show P * m + m = (P + 1) * m by rw [Nat.add_mul, Nat.one_mul], k1, k2]; exact Nat.mul_le_mul_right _ (hp.high p q hpq)) hn h2
    rw [h] at a2
    omega

/-- A natural that 53 bits and noughts hold is told exactly. -/
theorem rd_exact {N D s : Nat} (hN : N = D * 2 ^ s) (hD : D < 9007199254740992) (hs : s ≤ 900) : V (rd N 0 false) = N * 2 ^ low ∧ rd N 0 false < 9218868437227405312 := by
  have hlow : low = 1074 := rfl
  have hn := rd_self N 0 0 0 (by decide)
  rw [Nat.zero_add] at hn
  by_cases h0 : D = 0
  · rw [hN, h0, Nat.zero_mul, rd, if_pos rfl]; exact ⟨by rw [V_zero, Nat.zero_mul], by decide⟩
  · obtain ⟨t, t1, t2, t3⟩ := nat_full D (by omega) hD
    obtain ⟨-, -, -, -, p5, p6⟩ := form_parts (low - t + s) (D * 2 ^ t) (by omega) t2 t3
    have hV : V ((low - t + s) * 4503599627370496 + D * 2 ^ t) = N * 2 ^ low := by
      rw [p5, hN, Nat.mul_assoc, Nat.mul_assoc, ← Nat.pow_add, ← Nat.pow_add]; congr 2; omega
    have h1 := near_self (b := (low - t + s) * 4503599627370496 + D * 2 ^ t) (D := 1) (by omega) (by decide)
    rw [hV, Nat.mul_one] at h1
    rw [near_eq (D := 2 ^ 0) (D' := 1) (by decide) (by decide) (by rw [Nat.pow_zero]) hn h1]
    exact ⟨hV, by omega⟩
/-- Finite bits without a sign: their parts. -/
theorem parts_of {x : Nat} (hx : x < 9218868437227405312) : kind x < 3 ∧ neg x = false ∧ V x = mant x * 2 ^ (expn x + 1074).toNat := by
  have hk : kind x < 3 := by
    unfold kind
    rw [if_neg (show expo x ≠ 2047 by unfold expo; omega)]
    split
    · omega
    · split <;> omega
  have := (V_parts x hk).1
  rw [Nat.mod_eq_of_lt (by omega)] at this
  exact ⟨hk, decide_eq_false (by omega), this⟩
/-- The product of two numbers that are naturals. -/
theorem mul_exact {x y X Y : Nat} (hx : x < 9218868437227405312) (hy : y < 9218868437227405312) (h1 : V x = X * 2 ^ low) (h2 : V y = Y * 2 ^ low) : rd (mant x * mant y) (expn x + expn y) false = rd (X * Y) 0 false := by
  obtain ⟨-, -, a⟩ := parts_of hx
  obtain ⟨-, -, b⟩ := parts_of hy
  have bx := expn_bound x
  have by' := expn_bound y
  obtain ⟨p, hp⟩ : ∃ p : Nat, p = (expn x + 1074).toNat := ⟨_, rfl⟩
  obtain ⟨q, hq⟩ : ∃ p : Nat, p = (expn y + 1074).toNat := ⟨_, rfl⟩
  rw [← hp, h1] at a
  rw [← hq, h2] at b
  have hn := rd_self (X * Y) 0 0 0 (by decide)
  rw [Nat.zero_add] at hn
  have hlow : low = 1074 := rfl
  have h3 := rd_near (X := X * Y * 2 ^ low) (D := 1) (n := mant x * mant y) (e := expn x + expn y) (more := false) (p := p + q) (q := low) (by decide) (by omega) (fun h => by cases h) (fun _ => by
    rw [Nat.mul_one, Nat.pow_add]
    have : X * Y * 2 ^ low * 2 ^ low = (X * 2 ^ low) * (Y * 2 ^ low) := by simp only [Nat.mul_assoc, Nat.mul_comm, Nat.mul_left_comm]
    rw [this, a, b]; simp only [Nat.mul_assoc, Nat.mul_comm, Nat.mul_left_comm]) (fun h => by cases h)
  exact near_eq (D := 1) (D' := 2 ^ 0) (by decide) (by decide) (by rw [Nat.pow_zero]) h3 hn
/-- A natural's number, times ten to the power of x: a natural below 10^15, x at most 22. -/
theorem ten_exact {i : Nat} (hi : i ≤ 22) : V (rd (10 ^ i) 0 false) = 10 ^ i * 2 ^ low ∧ rd (10 ^ i) 0 false < 9218868437227405312 := by
  have h5 : 5 ^ i ≤ 5 ^ 22 := Nat.pow_le_pow_right (by decide) hi
  have e : (5 : Nat) ^ 22 = 2384185791015625 := by decide
  exact rd_exact (D := 5 ^ i) (s := i) (by rw [← Nat.mul_pow]) (by omega) (by omega)
theorem nat_exact {m : Nat} (hm : m < 9007199254740992) : V (rd m 0 false) = m * 2 ^ low ∧ rd m 0 false < 9218868437227405312 :=
  rd_exact (D := m) (s := 0) (by rw [Nat.pow_zero, Nat.mul_one]) hm (by omega)
theorem ten_next {i : Nat} (hi : i < 22) : rd (mant (rd (10 ^ i) 0 false) * mant (rd 10 0 false)) (expn (rd (10 ^ i) 0 false) + expn (rd 10 0 false)) false = rd (10 ^ (i + 1)) 0 false := by
  obtain ⟨a1, a2⟩ := ten_exact (i := i) (by omega)
  obtain ⟨b1, b2⟩ := nat_exact (m := 10) (by decide)
  rw [mul_exact a2 b2 a1 b1, Nat.pow_succ]
theorem small_exact {l : Dc.Bs} {x : Nat} (hm : Dc.nv l < 9007199254740992) (hx : x ≤ 22) :
    rd (mant (rd (Dc.nv l) 0 false) * mant (rd (10 ^ x) 0 false)) (expn (rd (Dc.nv l) 0 false) + expn (rd (10 ^ x) 0 false)) false = bits l x := by
  obtain ⟨a1, a2⟩ := nat_exact hm
  obtain ⟨b1, b2⟩ := ten_exact hx
  rw [mul_exact a2 b2 a1 b1, ← bits_whole (by omega), Int.toNat_natCast]

/-- The powers of ten, of 128 bits. -/
def pwE (x : Int) : Int := if x < 0 then -((Na.bitLen (10 ^ (-x).toNat) : Int) + 127) else (Na.bitLen (10 ^ x.toNat) : Int) - 128
def pwP (x : Int) : Nat := if x < 0 then 2 ^ (Na.bitLen (10 ^ (-x).toNat) + 127) / 10 ^ (-x).toNat else if pwE x ≤ 0 then 10 ^ x.toNat * 2 ^ (-pwE x).toNat else 10 ^ x.toNat / 2 ^ (pwE x).toNat
def pwA (x : Int) : Bool := if x < 0 then false else if pwE x ≤ 0 then true else !decide (10 ^ x.toNat % 2 ^ (pwE x).toNat ≠ 0)
theorem pw (x : Int) : Pw x (pwP x) (pwE x) (pwA x) := by
  by_cases h0 : x < 0
  · obtain ⟨B, hB⟩ : ∃ B, B = 10 ^ (-x).toNat := ⟨_, rfl⟩
    have hBp : 0 < B := by rw [hB]; exact Nat.pow_pos (by decide)
    have hA : tenA x = 1 := by rw [tenA, if_neg (by omega)]
    have hBt : tenB x = B := by rw [tenB, if_neg (by omega), hB]
    obtain ⟨k, hk⟩ : ∃ k, k = Na.bitLen B + 127 := ⟨_, rfl⟩
    have hE : pwE x = -(k : Int) := by rw [pwE, if_pos h0, ← hB]; omega
    have hP : pwP x = 2 ^ k / B := by rw [pwP, if_pos h0, ← hB, ← hk]
    have hAl : pwA x = false := by rw [pwA, if_pos h0]
    rw [hE, hP, hAl]
    have hdm := Nat.div_add_mod (2 ^ k) B
    have hml := Nat.mod_lt (2 ^ k) hBp
    refine ⟨fun h => (by cases h), fun p q hpq => ?_, fun p q hpq => ?_⟩
    · have hq : q = p + k := by omega
      rw [hA, hBt, hq, Nat.one_mul, Nat.pow_add, Nat.mul_right_comm, Nat.mul_comm _ (2 ^ p)]
      exact Nat.mul_le_mul_left _ (Nat.div_mul_le_self _ _)
    · have hq : q = p + k := by omega
      rw [hA, hBt, hq, Nat.one_mul, Nat.pow_add, Nat.mul_right_comm, Nat.mul_comm _ (2 ^ p)]
      refine Nat.mul_le_mul_left _ ?_
      rw [Nat.add_mul, Nat.one_mul, Nat.mul_comm]; omega
  · obtain ⟨A, hA0⟩ : ∃ B, B = 10 ^ x.toNat := ⟨_, rfl⟩
    have hA : tenA x = A := by rw [tenA, if_pos (by omega), hA0]
    have hBt : tenB x = 1 := by rw [tenB, if_pos (by omega)]
    by_cases h1 : pwE x ≤ 0
    · obtain ⟨k, hk⟩ : ∃ k : Nat, pwE x = -(k : Int) := ⟨(-pwE x).toNat, by omega⟩
      have hP : pwP x = A * 2 ^ k := by rw [pwP, if_neg h0, if_pos h1, ← hA0, hk]; congr 2; omega
      rw [hP, hk]
      have key : ∀ p q : Nat, (p : Int) - q = -(k : Int) → A * 2 ^ k * 2 ^ p * tenB x = tenA x * 2 ^ q := fun p q hpq => by
        rw [hA, hBt, Nat.mul_one, show q = k + p by omega, Nat.pow_add, Nat.mul_assoc]
      refine ⟨fun _ p q hpq => key p q hpq, fun p q hpq => by rw [key p q hpq]; exact Nat.le_refl _, fun p q hpq => ?_⟩
      rw [← key p q hpq]
      exact Nat.mul_le_mul_right _ (Nat.mul_le_mul_right _ (Nat.le_succ _))
    · obtain ⟨k, hk⟩ : ∃ k : Nat, pwE x = (k : Int) := ⟨(pwE x).toNat, by omega⟩
      have hP : pwP x = A / 2 ^ k := by rw [pwP, if_neg h0, if_neg h1, ← hA0, hk, Int.toNat_natCast]
      have hAl : pwA x = !decide (A % 2 ^ k ≠ 0) := by rw [pwA, if_neg h0, if_neg h1, ← hA0, hk, Int.toNat_natCast]
      have hdm := Nat.div_add_mod A (2 ^ k)
      have hml := Nat.mod_lt A (show 0 < 2 ^ k from Nat.pow_pos (by decide))
      rw [hP, hk, hAl]
      refine ⟨fun h p q hpq => ?_, fun p q hpq => ?_, fun p q hpq => ?_⟩
      · have hz : A % 2 ^ k = 0 := by
          rw [Bool.not_eq_true'] at h
          have := of_decide_eq_false h; omega
        rw [hA, hBt, Nat.mul_one, show p = k + q by omega, Nat.pow_add, ← Nat.mul_assoc, Nat.mul_comm (A / 2 ^ k)]
        rw [show 2 ^ k * (A / 2 ^ k) = A by omega]
      · rw [hA, hBt, Nat.mul_one, show p = k + q by omega, Nat.pow_add, ← Nat.mul_assoc]
        exact Nat.mul_le_mul_right _ (Nat.div_mul_le_self _ _)
      · rw [hA, hBt, Nat.mul_one, show p = k + q by omega, Nat.pow_add, ← Nat.mul_assoc]
        refine Nat.mul_le_mul_right _ ?_
        rw [Nat.add_mul, Nat.one_mul, Nat.mul_comm]; omega
end Go.Proofs.YtjnkbifafbjckaaGreatDoor.Fl
