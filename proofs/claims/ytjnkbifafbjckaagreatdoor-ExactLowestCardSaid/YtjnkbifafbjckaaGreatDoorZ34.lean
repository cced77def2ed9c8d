/- Plain Lean: the whole part of a number, as a decimal. -/
import Derived.Test.YtjnkbifafbjckaaGreatDoorZ33
import Derived.Test.YtjnkbifafbjckaaGreatDoorZ31
import Derived.Test.YtjnkbifafbjckaaGreatDoorZ11
import Derived.Test.YtjnkbifafbjckaaGreatDoorZ26
import Derived.Test.YtjnkbifafbjckaaGreatDoorZ27
import Derived.Test.YtjnkbifafbjckaaGreatDoorZ28
import Derived.Test.YtjnkbifafbjckaaGreatDoorZ32
import Derived.Test.YtjnkbifafbjckaaGreatDoorZ22
import Derived.Test.YtjnkbifafbjckaaGreatDoorZ1
import Derived.Laws.IdiomCopy
namespace Go.Proofs.YtjnkbifafbjckaaGreatDoor.Fl
set_option linter.all false
open Go

theorem low_succ : (2 : Nat) ^ (low + 1) = 2 ^ low * 2 := by rw [Nat.pow_succ]
theorem low_two : 0 < 2 ^ low * 2 := Nat.mul_pos (Nat.pow_pos (by decide)) (by decide)
theorem up_low (k : Nat) : ((k : Int) + 1074).toNat = k + low := by unfold low; omega
theorem down_low {k d : Nat} (h : low = k + d) : (-(k : Int) + 1074).toNat = d := by unfold low at h; omega
/-- The whole part of a number. -/
def whole (x : Nat) : Nat := if 0 ≤ expn x then mant x * 2 ^ (expn x).toNat else mant x / 2 ^ (-expn x).toNat
theorem place_e (n : Bool) (l : Dc.Bs) (x : Int) (h : Dc.right l x = true) (hl : l.length ≤ 1000) : (Dc.place n l x 0 2).e = 0 := by
  rw [Dc.place, if_pos ⟨h, by decide, by decide, by decide, by decide⟩]
  split
  · have hup : ∀ a b, Dc.up n a b 2 = false := fun a b => by
      unfold Dc.up; split
      · rfl
      · rfl
    have hx := Dc.right_exp h
    rename_i hc
    have hpt : Dc.point l x = l.length + x := by rw [Dc.point, if_pos h]
    rw [hpt] at hc ⊢
    unfold Dc.cut
    simp only [hup, Bool.false_eq_true, if_false]
    refine (mk_fine n _ _ (Dc.dig_take (Dc.right_dig h) _) ?_ ⟨by omega, by omega⟩).1
    rw [List.length_take]; omega
  · rfl
theorem rnd_down (n : Bool) (V U : Nat) : Dc.rnd n 2 V U = V / U := by
  have : Dc.ups n 2 (V / U) (V % U) U = false := by
    unfold Dc.ups
    rw [if_neg (by decide), if_neg (by decide), if_neg (by decide), if_neg (by decide), decide_eq_false (by decide : ¬ (2 : Int) = 5), Bool.false_and, Bool.and_false]
  rw [Dc.rnd, this]; rfl
theorem place_down (x : Nat) (hk : kind x < 3) : ∃ (l : Dc.Bs) (X : Int), place x 0 2 = ⟨neg x, l, X, 0⟩ ∧ Dc.right l X = true ∧ 0 ≤ X ∧ Dc.vv l X = whole x * 10 ^ Dc.lift ∧
    (∀ s, whole x < 2 ^ 53 → of s (whole x) 0 = ⟨s, l, X, 0⟩) := by
  obtain ⟨l, X, hd, hr, hw⟩ := dec_is x hk
  have hll : l.length ≤ 767 := by
    have := dec_len x
    have e : (dec x).l = (of (neg x) (mant x) (expn x)).l := by rw [dec, if_neg (by omega)]; rfl
    rw [hd] at e
    rw [show l = _ from e]; exact this
  have hpe := place_e (neg x) l X hr (by omega)
  obtain ⟨p1, p2, p3⟩ := Dc.place_rnd (neg x) l X 0 2 hr (by omega) (by omega) hpe
  obtain ⟨hp, -⟩ := V_parts x hk
  have hb := expn_bound x
  have hma := mant_lt x
  have h971 : n971 = 971 := rfl
  have hunit : Dc.unit 0 = 10 ^ Dc.lift := by rw [Dc.unit, show ((Dc.lift : Int) - 0).toNat = Dc.lift by omega]
  have h10 : 0 < 10 ^ Dc.lift := Nat.pow_pos (by decide)
  rw [rnd_down, hunit] at p3
  -- the quotient is the whole part
  have hq : Dc.vv l X / 10 ^ Dc.lift = whole x := by
    rw [hp] at hw
    obtain ⟨L, hL⟩ : ∃ L, L = 10 ^ Dc.lift := ⟨_, rfl⟩
    rw [← hL] at hw h10 ⊢
    unfold whole
    by_cases he : 0 ≤ expn x
    · obtain ⟨k, hke⟩ : ∃ k : Nat, expn x = k := ⟨(expn x).toNat, by omega⟩
      rw [if_pos he, hke, Int.toNat_natCast]
      rw [hke, show ((k : Int) + 1074).toNat = k + low from up_low k, Nat.pow_add 2 k low, low_succ] at hw
      have e : Dc.vv l X * (2 ^ low * 2) = mant x * 2 ^ k * L * (2 ^ low * 2) := by
        rw [hw]; simp only [Nat.mul_assoc, Nat.mul_comm, Nat.mul_left_comm]
      rw [Nat.eq_of_mul_eq_mul_right low_two e, Nat.mul_div_cancel _ h10]
    · obtain ⟨k, hke⟩ : ∃ k : Nat, expn x = -(k : Int) := ⟨(-expn x).toNat, by omega⟩
      rw [if_neg he, hke, Int.neg_neg, Int.toNat_natCast]
      obtain ⟨d, hd2⟩ : ∃ d, low = k + d := ⟨low - k, by unfold low; omega⟩
      rw [hke, show (-(k : Int) + 1074).toNat = d from down_low hd2, hd2, Nat.pow_succ, Nat.pow_add] at hw
      have p2k : 0 < 2 ^ k := Nat.pow_pos (by decide)
      have e : Dc.vv l X * 2 ^ k = mant x * L := by
        have : Dc.vv l X * 2 ^ k * (2 ^ d * 2) = mant x * L * (2 ^ d * 2) := by
          have h1 : Dc.vv l X * 2 ^ k * (2 ^ d * 2) = Dc.vv l X * (2 ^ k * 2 ^ d * 2) := by simp only [Nat.mul_assoc]
          rw [h1, hw]; simp only [Nat.mul_assoc, Nat.mul_comm, Nat.mul_left_comm]
        exact Nat.eq_of_mul_eq_mul_right (show 0 < 2 ^ d * 2 from Nat.mul_pos (Nat.pow_pos (by decide)) (by decide)) this
      have h1 := Nat.div_add_mod (mant x) (2 ^ k)
      have h2 := Nat.mod_lt (mant x) p2k
      obtain ⟨Q, hQ⟩ : ∃ Q, Q = mant x / 2 ^ k := ⟨_, rfl⟩
      rw [← hQ] at h1 ⊢
      have a1 : Q * L ≤ Dc.vv l X := by
        refine Nat.le_of_mul_le_mul_right ?_ p2k
        rw [e]
        have : Q * L * 2 ^ k = 2 ^ k * Q * L := by simp only [Nat.mul_assoc, Nat.mul_comm, Nat.mul_left_comm]
        rw [this]; exact Nat.mul_le_mul_right _ (by omega)
      have a2 : Dc.vv l X < (Q + 1) * L := by
        refine Nat.lt_of_mul_lt_mul_right (a := 2 ^ k) ?_
        rw [e]
        have : (Q + 1) * L * 2 ^ k = (2 ^ k * Q + 2 ^ k) * L := by rw [← Nat.mul_succ]; simp only [Nat.mul_assoc, Nat.mul_comm, Nat.mul_left_comm]
        rw [this]; exact Nat.mul_lt_mul_of_pos_right (by omega) h10
      have b1 := (Nat.le_div_iff_mul_le h10).2 a1
      have b2 := (Nat.div_lt_iff_lt_mul h10).2 a2
      omega
  rw [hq] at p3
  have hfin : ∀ s, whole x < 2 ^ 53 → of s (whole x) 0 = ⟨s, (Dc.place (neg x) l X 0 2).l, (Dc.place (neg x) l X 0 2).x, 0⟩ := fun s hs => by
    obtain ⟨l', X', k1, k2, k3, k4⟩ := of_nat s (whole x) 0 (by omega) (by omega)
    have k1' : of s (whole x) 0 = ⟨s, l', X', 0⟩ := k1
    rw [k1']
    rw [Nat.pow_zero, Nat.mul_one] at k4
    obtain ⟨e1, e2⟩ := Dc.vv_inj k2 p2 (k4.trans p3.symm)
    rw [e1, e2]
  have hx0 : 0 ≤ (Dc.place (neg x) l X 0 2).x := by
    -- a last digit that is no nought
    obtain ⟨l2, hl2⟩ : ∃ l2, l2 = (Dc.place (neg x) l X 0 2).l := ⟨_, rfl⟩
    obtain ⟨X2, hX2⟩ : ∃ X2, X2 = (Dc.place (neg x) l X 0 2).x := ⟨_, rfl⟩
    rw [← hl2, ← hX2] at p2 p3
    rw [← hX2]
    rcases Int.lt_or_le X2 0 with hneg | hok
    · exfalso
      have hx2 := Dc.right_exp p2
      have hlift : Dc.lift = 200000 := rfl
      by_cases hne : l2 = []
      · rw [hne, Dc.right] at p2
        rw [if_pos rfl] at p2
        have := eq_of_beq p2
        omega
      · obtain ⟨j, hj⟩ : ∃ j : Nat, X2 = -((j : Int) + 1) := ⟨(-X2 - 1).toNat, by omega⟩
        obtain ⟨c, hc⟩ : ∃ c, Dc.lift = j + 1 + c := ⟨Dc.lift - (j + 1), by omega⟩
        have e3 : Dc.nv l2 = whole x * 10 ^ (j + 1) := by
          unfold Dc.vv at p3
          rw [show (X2 + (Dc.lift : Int)).toNat = c by omega, hc, Nat.pow_add, ← Nat.mul_assoc] at p3
          exact Nat.eq_of_mul_eq_mul_right (Nat.pow_pos (by decide)) p3
        have hd := Dc.right_dig p2
        have hen := Dc.right_endOk p2 hne
        have hs := List.dropLast_concat_getLast hne
        have hg : l2[l2.length - 1]? = some (l2.getLast hne) := by
          rw [← List.getLast?_eq_getElem?, List.getLast?_eq_some_getLast hne]
        have hdm := Dc.dig_mem hd (List.getLast_mem hne)
        have hn48 : (l2.getLast hne).toNat ≠ 48 := by intro e; apply hen; rw [hg]; exact congrArg some (UInt8.toNat_inj.1 (by simpa using e))
        rw [← hs, Dc.nv_app, Dc.nv_cons, Dc.nv_nil, Nat.pow_succ, ← Nat.mul_assoc] at e3
        simp only [List.length_cons, List.length_nil, Nat.zero_add, Nat.pow_one, Nat.pow_zero, Nat.mul_one, Nat.add_zero] at e3
        omega
    · exact hok
  refine ⟨(Dc.place (neg x) l X 0 2).l, (Dc.place (neg x) l X 0 2).x, ?_, p2, hx0, p3, hfin⟩
  rw [place, if_neg (by omega), hd]
  show Dc.place (neg x) l X 0 2 = _
  rcases hr : Dc.place (neg x) l X 0 2 with ⟨a, b, c, d⟩
  rw [hr] at p1 hpe
  simp only at p1 hpe
  rw [p1, hpe]

end Go.Proofs.YtjnkbifafbjckaaGreatDoor.Fl

/- Plain Lean: a number of eighths is told as it is; naturals of 53 bits. -/
namespace Go.Proofs.YtjnkbifafbjckaaGreatDoor.Fl
set_option linter.all false
open Go

/-- A normal number's parts. -/
theorem form_parts (j m : Nat) (hj : j ≤ 2045) (h1 : 4503599627370496 ≤ m) (h2 : m < 9007199254740992) : kind (j * 4503599627370496 + m) = 2 ∧ mant (j * 4503599627370496 + m) = m ∧ expn (j * 4503599627370496 + m) = (j : Int) - 1074 ∧
    neg (j * 4503599627370496 + m) = false ∧ V (j * 4503599627370496 + m) = m * 2 ^ j ∧ j * 4503599627370496 + m < 9218868437227405312 := by
  have hE : expo (j * 4503599627370496 + m) = j + 1 := by unfold expo; omega
  have hF : frac (j * 4503599627370496 + m) = m - 4503599627370496 := by unfold frac; omega
  have hk : kind (j * 4503599627370496 + m) = 2 := by unfold kind; rw [hE, if_neg (by omega), if_pos (by omega)]
  refine ⟨hk, by rw [mant, if_pos hk, hF]; omega, by rw [expn, if_pos hk, hE]; omega, decide_eq_false (by omega), V_form j m (Or.inr ⟨h1, by omega⟩), by omega⟩
/-- A natural of 53 bits, shifted up to its full length. -/
theorem nat_full (D : Nat) (h0 : 0 < D) (hD : D < 9007199254740992) : ∃ t : Nat, t ≤ 52 ∧ 4503599627370496 ≤ D * 2 ^ t ∧ D * 2 ^ t < 9007199254740992 := by
  obtain ⟨a1, a2, a3⟩ := bitLen_ge (n := D) (by omega)
  have hl : Na.bitLen D ≤ 53 := by
    rcases Nat.lt_or_ge 53 (Na.bitLen D) with h | h
    · have : 2 ^ 53 ≤ 2 ^ (Na.bitLen D - 1) := Nat.pow_le_pow_right (by decide) (by omega)
      omega
    · exact h
  refine ⟨53 - Na.bitLen D, by omega, ?_, ?_⟩
  · have := Nat.mul_le_mul_right (2 ^ (53 - Na.bitLen D)) a1
    rw [← Nat.pow_add, show Na.bitLen D - 1 + (53 - Na.bitLen D) = 52 by omega] at this
    exact this
  · have := Nat.mul_lt_mul_of_pos_right a2 (show 0 < 2 ^ (53 - Na.bitLen D) from Nat.pow_pos (by decide))
    rw [← Nat.pow_add, show Na.bitLen D + (53 - Na.bitLen D) = 53 by omega] at this
    exact this
theorem bitLen_53 {m : Nat} (h1 : 4503599627370496 ≤ m) (h2 : m < 9007199254740992) : Na.bitLen m = 53 := by
  obtain ⟨a1, a2, a3⟩ := bitLen_ge (n := m) (by omega)
  rcases Nat.lt_trichotomy (Na.bitLen m) 53 with h | h | h
  · have : 2 ^ Na.bitLen m ≤ 2 ^ 52 := Nat.pow_le_pow_right (by decide) (by omega)
    omega
  · exact h
  · have : 2 ^ 53 ≤ 2 ^ (Na.bitLen m - 1) := Nat.pow_le_pow_right (by decide) (by omega)
    omega
/-- What fits is not rounded. -/
theorem rd_fit {m j : Nat} {e : Int} (h1 : 4503599627370496 ≤ m) (h2 : m < 9007199254740992) (hj : j ≤ 2045) (he : e = (j : Int) - 1074) : rd m e false = j * 4503599627370496 + m := by
  have hu : ulp m e = e := by unfold ulp; rw [bitLen_53 h1 h2]; omega
  rw [rd, if_neg (by omega), hu, Int.sub_self, rdm, if_pos (Int.le_refl _), show (-(0 : Int)).toNat = 0 from rfl, Nat.pow_zero, Nat.mul_one, show (e + 1074).toNat = j by omega]
  omega
/-- A natural of 53 bits is told exactly. -/
theorem bits_nat {l : Dc.Bs} {X : Int} {D : Nat} (hX : -100000 ≤ X) (hv : Dc.vv l X = D * 10 ^ Dc.lift) (hD : D < 9007199254740992) :
    (D = 0 ∧ bits l X = 0) ∨ (0 < D ∧ ∃ t : Nat, t ≤ 52 ∧ 4503599627370496 ≤ D * 2 ^ t ∧ D * 2 ^ t < 9007199254740992 ∧ bits l X = (low - t) * 4503599627370496 + D * 2 ^ t) := by
  by_cases h0 : D = 0
  · refine Or.inl ⟨h0, (bits_eq hX ?_).symm⟩
    have := near_self (b := 0) (D := 10 ^ Dc.lift) (by decide) (Nat.pow_pos (by decide))
    rw [V_zero] at this
    rw [hv, h0, Nat.zero_mul, Nat.zero_mul]
    rwa [Nat.zero_mul] at this
  · obtain ⟨t, t1, t2, t3⟩ := nat_full D (by omega) hD
    have hlow : low = 1074 := rfl
    obtain ⟨-, -, -, -, p5, p6⟩ := form_parts (low - t) (D * 2 ^ t) (by omega) t2 t3
    refine Or.inr ⟨by omega, t, t1, t2, t3, (bits_eq hX ?_).symm⟩
    have := near_self (b := (low - t) * 4503599627370496 + D * 2 ^ t) (D := 10 ^ Dc.lift) (by omega) (Nat.pow_pos (by decide))
    rw [p5, Nat.mul_assoc D, ← Nat.pow_add, show t + (low - t) = low by omega] at this
    rw [hv, Nat.mul_right_comm]; exact this

theorem exp_neg {t : Nat} (h : 3 ≤ t) (ht : t ≤ 52) : ¬ 0 ≤ (((low - t : Nat) : Int) - 1074) := by unfold low; omega
theorem exp_back {t : Nat} (ht : t ≤ 52) : (-(((low - t : Nat) : Int) - 1074)).toNat = t := by unfold low; omega
/-- A number of eighths is told as it is. -/
theorem eighth_ratio {D t k : Nat} {l : Dc.Bs} {X : Int} (ht3 : 3 ≤ t) (ht : t ≤ 52) (h1 : 4503599627370496 ≤ D * 2 ^ t) (h2 : D * 2 ^ t < 9007199254740992) (hk : k < 8)
    (hof : of false D 0 = ⟨false, l, X, 0⟩) (most : Int) (hm : 8 ≤ most ∧ most ≤ 200) :
    D * 2 ^ t + k * 2 ^ (t - 3) < 9007199254740992 ∧ ∃ W, rd (D * 2 ^ t + k * 2 ^ (t - 3)) (-(t : Int)) false = W ∧ W < 9218868437227405312 ∧ ∃ p q : Nat, ratio W most = ⟨⟨false, l, X, 0⟩, p, q, 0⟩ ∧ p * 8 = k * q := by
  have hmost : ¬ (most < 1 ∨ 9999 < most) := by omega
  have hlow : low = 1074 := rfl
  have p53 : (2 : Nat) ^ 53 = 9007199254740992 := by decide
  have p2t : 0 < 2 ^ t := Nat.pow_pos (by decide)
  have eP : 2 ^ (53 - t) * 2 ^ t = 9007199254740992 := by rw [← Nat.pow_add, show 53 - t + t = 53 by omega, p53]
  have e8 : 2 ^ t = 8 * 2 ^ (t - 3) := by
    obtain ⟨d, rfl⟩ : ∃ d, t = 3 + d := ⟨t - 3, by omega⟩
    rw [Nat.add_sub_cancel_left, Nat.pow_add]
  obtain ⟨Q, hQ⟩ : ∃ Q, Q = 2 ^ (53 - t) := ⟨_, rfl⟩
  obtain ⟨s, hs⟩ : ∃ s, s = 2 ^ (t - 3) := ⟨_, rfl⟩
  obtain ⟨u, hu⟩ : ∃ u, u = 2 ^ t := ⟨_, rfl⟩
  rw [← hs, ← hu] at e8
  rw [← hu] at h1 h2 p2t
  rw [← hQ, ← hu] at eP
  rw [← hs, ← hu]
  have hk8 : k * s < u := by rw [e8]; exact Nat.mul_lt_mul_of_pos_right hk (by omega)
  have hsum : D * u + k * s < 9007199254740992 := by
    have h3 : D * u < Q * u := by omega
    have hD := Nat.lt_of_mul_lt_mul_right h3
    have h4 := Nat.mul_le_mul_right u (show D + 1 ≤ Q by omega)
    rw [Nat.add_mul, Nat.one_mul] at h4
    omega
  refine ⟨hsum, rd (D * u + k * s) (-(t : Int)) false, rfl, ?_⟩
  obtain ⟨m, hme⟩ : ∃ m, m = D * u + k * s := ⟨_, rfl⟩
  have hm1 : 4503599627370496 ≤ m := by omega
  rw [← hme] at hsum ⊢
  obtain ⟨j, hj⟩ : ∃ j, j = low - t := ⟨_, rfl⟩
  have hrd : rd m (-(t : Int)) false = j * 4503599627370496 + m := rd_fit hm1 hsum (by omega) (by omega)
  obtain ⟨q1, q2, q3, q4, q5, q6⟩ := form_parts j m (by omega) hm1 hsum
  rw [hrd]
  refine ⟨q6, ?_⟩
  have hdiv : m / u = D := by
    rw [hme, Nat.mul_comm, Nat.mul_add_div p2t, Nat.div_eq_of_lt hk8, Nat.add_zero]
  have hmod : m % u = k * s := by
    rw [hme, Nat.mul_comm, Nat.mul_add_mod, Nat.mod_eq_of_lt hk8]
  have hexp : (-((j : Int) - 1074)).toNat = t := by rw [hj]; exact exp_back ht
  have hall := best_all hk8 most.toNat k 8 (by decide) (by omega)
  have hks : k * s * 8 = u * k := by rw [e8, Nat.mul_comm (k * s) 8, Nat.mul_comm k s, Nat.mul_assoc]
  have hg0 : gap (k * s) u k 8 = 0 := by
    unfold gap
    rw [hks, if_neg (Nat.lt_irrefl _), Nat.sub_self]
  rw [hg0, Nat.zero_mul] at hall
  have hr : ratio (j * 4503599627370496 + m) most = if best (k * s) u most.toNat = (1, 1) then ⟨of false (D + 1) 0, 0, 1, 0⟩ else ⟨of false D 0, (best (k * s) u most.toNat).1, (best (k * s) u most.toNat).2, 0⟩ := by
    have k1 : ¬ 3 ≤ kind (j * 4503599627370496 + m) := by rw [q1]; decide
    have k3 : ¬ 0 ≤ expn (j * 4503599627370496 + m) := by rw [q3, hj]; exact exp_neg ht3 ht
    rw [ratio, if_neg k1, if_neg hmost, if_neg k3, q2, q3, q4, hexp, ← hu, hdiv, hmod]
  obtain ⟨B, hB⟩ : ∃ B, B = best (k * s) u most.toNat := ⟨_, rfl⟩
  rw [← hB] at hall hr
  have hz : gap (k * s) u B.1 B.2 = 0 := Nat.eq_zero_of_le_zero (Nat.le_of_mul_le_mul_right (show gap (k * s) u B.1 B.2 * 8 ≤ 0 * 8 from hall) (by decide))
  have hpq : B.1 * 8 = k * B.2 := by
    have e1 : k * s * B.2 = u * B.1 := by
      clear hall hks hg0 hr hdiv hmod hexp q1 q2 q3 q4 q5 q6 hrd hm1 hsum hme hj h1 h2 eP hk8
      unfold gap at hz; split at hz <;> omega
    have hs0 : 0 < s := by omega
    have e2 : k * B.2 * s = B.1 * 8 * s := by
      rw [Nat.mul_right_comm, e1, e8, Nat.mul_right_comm 8, Nat.mul_comm 8 B.1]
    exact (Nat.eq_of_mul_eq_mul_right hs0 e2).symm
  have hne : B ≠ (1, 1) := by
    intro e
    have h1 : B.1 = 1 := by rw [e]
    have h2 : B.2 = 1 := by rw [e]
    rw [h1, h2] at hpq; omega
  rw [if_neg hne, hof] at hr
  exact ⟨B.1, B.2, hr, hpq⟩
/-- How great a whole part of at most fifteen digits is. -/
theorem digits_lt {l : Dc.Bs} {X : Int} {D : Nat} (hr : Dc.right l X = true) (hv : Dc.vv l X = D * 10 ^ Dc.lift) (hs : (l.length : Int) + X ≤ 15) : D < 9007199254740992 := by
  have h10 : 0 < 10 ^ Dc.lift := Nat.pow_pos (by decide)
  by_cases hne : l = []
  · rw [hne, Dc.vv_zero] at hv
    rcases Nat.eq_zero_or_pos D with h | h
    · omega
    · have := Nat.mul_pos h h10; omega
  · have h2 := (Dc.vv_bounds hr hne).2
    have h3 : 10 ^ ((l.length : Int) + X + Dc.lift).toNat ≤ 10 ^ (15 + Dc.lift) := Nat.pow_le_pow_right (by decide) (by omega)
    rw [Nat.pow_add] at h3
    rw [hv] at h2
    have := Nat.lt_of_mul_lt_mul_right (Nat.lt_of_lt_of_le h2 h3)
    omega
end Go.Proofs.YtjnkbifafbjckaaGreatDoor.Fl

/- Euclid's way; fractions that are none. -/
namespace Go.Proofs.YtjnkbifafbjckaaGreatDoor
set_option linter.all false
open Go.RowKit
attribute [local go_sem] Dc.Res.val Fl.fv

theorem Fl.str_is {l : Dc.Bs} {X : Int} (h : Dc.right l X = true) : ∃ S : ByteArray, S = ⟨l.toArray⟩ ∧ S.data.toList = l ∧ S.size ≤ 1100 := by
  refine ⟨⟨l.toArray⟩, rfl, rfl, ?_⟩
  rw [← bs_length]; exact Dc.right_len h

theorem Fl.print_short (n : Bool) (l : Dc.Bs) (x : Int) : (Dc.print n l x).length ≤ 3000 := by
  unfold Dc.print
  split
  · rename_i h
    have h1 := Dc.right_len h
    have h2 := Dc.right_exp h
    have hV : (if n = true then [45] else [] : Dc.Bs).length ≤ 1 := by cases n <;> simp
    generalize (if n = true then [45] else [] : Dc.Bs) = V at hV
    have hi1 : ∀ u : Int, -1000000 ≤ u ∧ u ≤ 1000000 → (Lib.itoa u).length ≤ 30 := fun u hu => Dc.itoa_len u hu
    unfold Dc.body
    split
    · simp; omega
    · split
      · simp [Lib.repeatL_length]; omega
      · split
        · simp; omega
        · split
          · simp [Lib.repeatL_length]; omega
          · have e1 := hi1 (1 - (l.length + x)) (by omega)
            have e2 := hi1 (l.length + x - 1) (by omega)
            simp only []
            split <;> split <;> simp <;> omega
  · simp

/-- Euclid's way. -/
theorem l9_gcd_any (a b : Nat) (w : World) (ha : a ≤ 1000) (hb : b ≤ 1000) : Calls Tryz.prog 23 #[.int .i64 a, .int .i64 b] w (Ret0 (.int .i64 (Nat.gcd a b : Nat)) w) := by
  obtain ⟨G, hG⟩ : ∃ G, G = Nat.gcd a b := ⟨_, rfl⟩
  rw [← hG]
  have HG := Lib.hid hG.symm
  clear hG
  go_enter Tryz.func23, Tryz.ntmps23
  go_wp2_with fail
  go_loop [0, 1] (fun av bv => ∃ x y : Nat, av = .int .i64 x ∧ bv = .int .i64 y ∧ x ≤ 1000 ∧ y ≤ 1000 ∧ Hid (Nat.gcd x y = G)) (fun _ bv => (intOf bv).toNat)
  case atStart => exact ⟨a, b, rfl, rfl, ha, hb, HG⟩
  case round =>
    clear HG ha hb
    obtain ⟨x, y, rfl, rfl, hx, hy, HG⟩ := hrel
    by_cases h0 : y = 0
    · have hxG := Lib.hid (show x = G by have := HG.out; rwa [h0, Nat.gcd_zero_right] at this)
      have hy1 : decide ((0 : Int) < (y : Int)) = false := decide_eq_false (by omega)
      have hy2 : y ≤ 0 := by omega
      clear h0
      go_wp2
      go_ret
      exact Ret0.of (by rw [hxG.out]; rfl)
    · have hm : (x : Int).tmod (y : Int) = ((x % y : Nat) : Int) := by
        rw [Int.tmod_eq_emod_of_nonneg (by omega)]; rfl
      have hml : x % y < y := Nat.mod_lt _ (by omega)
      have HG2 := Lib.hid (show Nat.gcd y (x % y) = G by rw [Nat.gcd_comm, ← Nat.gcd_rec, Nat.gcd_comm]; exact HG.out)
      obtain ⟨z, hz⟩ : ∃ z, z = x % y := ⟨_, rfl⟩
      have hm2 : (x : Int) % (y : Int) = (z : Int) := by rw [hz]; rfl
      rw [← hz] at hm hml HG2
      have hy0 : 0 < y := by omega
      clear hz
      go_wp2
      go_round
      case rel => exact ⟨y, z, rfl, rfl, hy, by omega, HG2⟩
      case measure => simp [intOf]; omega

section none
set_option maxRecDepth 100000 in
set_option maxHeartbeats 4000000 in
theorem l9_lowest_none (x : Nat) (most q : Int) (w : World) (ht : Tab w) (hx : x < 18446744073709551616) (hm : -9223372036854775808 ≤ most ∧ most ≤ 9223372036854775807) (hk : 3 ≤ Fl.kind x) :
    Calls Tryz.prog 4 #[.int .u64 x, .int .i64 most, .int .i64 q] w (RetB (.bool true) w) := by
  have HS := Lib.hid (l9_shown_any w ht)
  have h1 := fun m (hm : -9223372036854775808 ≤ m ∧ m ≤ 9223372036854775807) w1 (hb : Below w.heap.size w w1) => ex_ratio_any x hx m hm w1 (ht.below hb)
  have hr : ∀ m, Fl.ratio x m = ⟨⟨false, [], 0, 0⟩, 0, 0, 11⟩ := fun m => if_pos hk
  simp only [hr] at h1
  by_cases c : 200 < most
  · have H1 := Lib.hid (h1 200 (by omega))
    clear h1 hr hk
    go_enter Tryz.func4, Tryz.ntmps4
    go_wp2_with (first
      | (go_at_call 17; (with_reducible refine (HS.out).mono ?_); rintro e w1 ⟨rfl, hb_w1⟩; have hB_w1 : Below (w).heap.size (w) w1 := Below.trans (by (repeat (first | exact Below.refl _ _ | assumption | refine Below.setCell ?_ (by first | omega | (simp <;> omega)) _ | refine Below.alloc ?_ (by first | omega | (simp <;> omega)) _ | refine Below.drew ?_ | refine below_drewN' ?_ _))) (hb_w1.mono (by first | omega | (simp <;> omega))); obtain ⟨hc_w1, hf_w1⟩ := bcell hb_w1; have hz_w1 := hb_w1.size; (try simp only [size_drew', size_drewN', World.size_alloc, World.size_setCell] at hz_w1))
      | (go_at_call 22; (with_reducible refine (H1.out _ (by (repeat (first | exact Below.refl _ _ | assumption | refine Below.setCell ?_ (by first | omega | (simp <;> omega)) _ | refine Below.alloc ?_ (by first | omega | (simp <;> omega)) _ | refine Below.drew ?_ | refine below_drewN' ?_ _)))).mono ?_); rintro e w2 ⟨rfl, hb_w2⟩; have hB_w2 : Below (w).heap.size (w) w2 := Below.trans (by (repeat (first | exact Below.refl _ _ | assumption | refine Below.setCell ?_ (by first | omega | (simp <;> omega)) _ | refine Below.alloc ?_ (by first | omega | (simp <;> omega)) _ | refine Below.drew ?_ | refine below_drewN' ?_ _))) (hb_w2.mono (by first | omega | (simp <;> omega))); obtain ⟨hc_w2, hf_w2⟩ := bcell hb_w2; have hz_w2 := hb_w2.size; (try simp only [size_drew', size_drewN', World.size_alloc, World.size_setCell] at hz_w2)))
    go_ret
    exact RetB.of rfl (by (repeat (first | exact Below.refl _ _ | assumption | refine Below.setCell ?_ (by first | omega | (simp <;> omega)) _ | refine Below.alloc ?_ (by first | omega | (simp <;> omega)) _ | refine Below.drew ?_ | refine below_drewN' ?_ _)))
  · have H1 := Lib.hid (h1 most hm)
    clear h1 hr hk
    go_enter Tryz.func4, Tryz.ntmps4
    go_wp2_with (first
      | (go_at_call 17; (with_reducible refine (HS.out).mono ?_); rintro e w1 ⟨rfl, hb_w1⟩; have hB_w1 : Below (w).heap.size (w) w1 := Below.trans (by (repeat (first | exact Below.refl _ _ | assumption | refine Below.setCell ?_ (by first | omega | (simp <;> omega)) _ | refine Below.alloc ?_ (by first | omega | (simp <;> omega)) _ | refine Below.drew ?_ | refine below_drewN' ?_ _))) (hb_w1.mono (by first | omega | (simp <;> omega))); obtain ⟨hc_w1, hf_w1⟩ := bcell hb_w1; have hz_w1 := hb_w1.size; (try simp only [size_drew', size_drewN', World.size_alloc, World.size_setCell] at hz_w1))
      | (go_at_call 22; (with_reducible refine (H1.out _ (by (repeat (first | exact Below.refl _ _ | assumption | refine Below.setCell ?_ (by first | omega | (simp <;> omega)) _ | refine Below.alloc ?_ (by first | omega | (simp <;> omega)) _ | refine Below.drew ?_ | refine below_drewN' ?_ _)))).mono ?_); rintro e w2 ⟨rfl, hb_w2⟩; have hB_w2 : Below (w).heap.size (w) w2 := Below.trans (by (repeat (first | exact Below.refl _ _ | assumption | refine Below.setCell ?_ (by first | omega | (simp <;> omega)) _ | refine Below.alloc ?_ (by first | omega | (simp <;> omega)) _ | refine Below.drew ?_ | refine below_drewN' ?_ _))) (hb_w2.mono (by first | omega | (simp <;> omega))); obtain ⟨hc_w2, hf_w2⟩ := bcell hb_w2; have hz_w2 := hb_w2.size; (try simp only [size_drew', size_drewN', World.size_alloc, World.size_setCell] at hz_w2)))
    go_ret
    exact RetB.of rfl (by (repeat (first | exact Below.refl _ _ | assumption | refine Below.setCell ?_ (by first | omega | (simp <;> omega)) _ | refine Below.alloc ?_ (by first | omega | (simp <;> omega)) _ | refine Below.drew ?_ | refine below_drewN' ?_ _)))
set_option maxRecDepth 100000 in
set_option maxHeartbeats 4000000 in
theorem l9_lowest_arg (x : Nat) (most q : Int) (w : World) (ht : Tab w) (hx : x < 18446744073709551616) (hm : -9223372036854775808 ≤ most ∧ most < 1) (hk : Fl.kind x < 3) :
    Calls Tryz.prog 4 #[.int .u64 x, .int .i64 most, .int .i64 q] w (RetB (.bool true) w) := by
  have HS := Lib.hid (l9_shown_any w ht)
  have h1 := fun w1 (hb : Below w.heap.size w w1) => ex_ratio_any x hx most (by omega) w1 (ht.below hb)
  have hr : Fl.ratio x most = ⟨⟨false, [], 0, 0⟩, 0, 0, 1⟩ := by rw [Fl.ratio, if_neg (by omega), if_pos (Or.inl (by omega))]
  rw [hr] at h1
  obtain ⟨m1, m2⟩ := hm
  have H1 := Lib.hid h1
  clear h1 hr hk
  go_enter Tryz.func4, Tryz.ntmps4
  go_wp2_with (first
    | (go_at_call 17; (with_reducible refine (HS.out).mono ?_); rintro e w1 ⟨rfl, hb_w1⟩; have hB_w1 : Below (w).heap.size (w) w1 := Below.trans (by (repeat (first | exact Below.refl _ _ | assumption | refine Below.setCell ?_ (by first | omega | (simp <;> omega)) _ | refine Below.alloc ?_ (by first | omega | (simp <;> omega)) _ | refine Below.drew ?_ | refine below_drewN' ?_ _))) (hb_w1.mono (by first | omega | (simp <;> omega))); obtain ⟨hc_w1, hf_w1⟩ := bcell hb_w1; have hz_w1 := hb_w1.size; (try simp only [size_drew', size_drewN', World.size_alloc, World.size_setCell] at hz_w1))
    | (go_at_call 22; (with_reducible refine (H1.out _ (by (repeat (first | exact Below.refl _ _ | assumption | refine Below.setCell ?_ (by first | omega | (simp <;> omega)) _ | refine Below.alloc ?_ (by first | omega | (simp <;> omega)) _ | refine Below.drew ?_ | refine below_drewN' ?_ _)))).mono ?_); rintro e w2 ⟨rfl, hb_w2⟩; have hB_w2 : Below (w).heap.size (w) w2 := Below.trans (by (repeat (first | exact Below.refl _ _ | assumption | refine Below.setCell ?_ (by first | omega | (simp <;> omega)) _ | refine Below.alloc ?_ (by first | omega | (simp <;> omega)) _ | refine Below.drew ?_ | refine below_drewN' ?_ _))) (hb_w2.mono (by first | omega | (simp <;> omega))); obtain ⟨hc_w2, hf_w2⟩ := bcell hb_w2; have hz_w2 := hb_w2.size; (try simp only [size_drew', size_drewN', World.size_alloc, World.size_setCell] at hz_w2)))
  go_ret
  exact RetB.of rfl (by (repeat (first | exact Below.refl _ _ | assumption | refine Below.setCell ?_ (by first | omega | (simp <;> omega)) _ | refine Below.alloc ?_ (by first | omega | (simp <;> omega)) _ | refine Below.drew ?_ | refine below_drewN' ?_ _)))
end none

end Go.Proofs.YtjnkbifafbjckaaGreatDoor

/- A block whose cells are known from the first one on. -/
namespace Go.Proofs.YtjnkbifafbjckaaGreatDoor
set_option linter.all false
open Go.RowKit

def Cs (w : World) (b : Nat) (vs : List Value) : Prop := b < w.heap.size ∧ ∀ k (h : k < vs.length), w.cell? ⟨b, k, none⟩ = some vs[k]
theorem Cs.get {w : World} {b : Nat} {vs : List Value} (h : Cs w b vs) (k : Nat) {v : Value} (hk : vs[k]? = some v) : w.cell? ⟨b, k, none⟩ = some v := by
  obtain ⟨h1, h2⟩ := List.getElem?_eq_some_iff.1 hk
  rw [h.2 k h1, h2]
theorem Cs.new (w : World) (vs : List Value) (t : TypeId) : Cs (w.alloc (.cells vs.toArray t)) w.heap.size vs :=
  ⟨by simp, fun k h => by
    simp only [World.cell?, World.alloc]
    simp [List.getElem?_eq_getElem h]⟩
theorem Cs.on {w w1 : World} {b : Nat} {vs : List Value} (h : Cs w b vs) (hb : Below w.heap.size w w1) : Cs w1 b vs :=
  ⟨Nat.lt_of_lt_of_le h.1 hb.size, fun k hk => (hb.cell (p := ⟨b, k, none⟩) h.1).trans (h.2 k hk)⟩
theorem Cs.alloc {w : World} {b : Nat} {vs : List Value} (h : Cs w b vs) (o : Obj) : Cs (w.alloc o) b vs := h.on ((Below.refl _ _).alloc (Nat.le_refl _) o)
theorem cell_drew1 (W : World) (a : Addr) : W.drew.cell? a = W.cell? a := rfl
theorem size_setCells (b : Nat) : ∀ (vs : List Value) (o : Nat) (w : World), (w.setCells b o vs).heap.size = w.heap.size
  | [], _, _ => rfl
  | v :: r, o, w => by rw [World.setCells, size_setCells b r]; exact World.size_setCell _ _ _
theorem below_setCells {B b : Nat} {w : World} (hb : B ≤ b) : ∀ (vs : List Value) (o : Nat) {W : World}, Below B w W → Below B w (W.setCells b o vs)
  | [], _, _, h => h
  | v :: r, o, W, h => below_setCells hb r (o + 1) (h.setCell (p := ⟨b, o, none⟩) hb v)
theorem cell_alloc_old {w : World} {o : Obj} {b k : Nat} (h : b < w.heap.size) : (w.alloc o).cell? ⟨b, k, none⟩ = w.cell? ⟨b, k, none⟩ := ((Below.refl _ w).alloc (Nat.le_refl _) o).cell (p := ⟨b, k, none⟩) h
theorem frozen_alloc_old {w : World} {o : Obj} {b k : Nat} (h : b < w.heap.size) : (w.alloc o).frozen? ⟨b, k, none⟩ = w.frozen? ⟨b, k, none⟩ := ((Below.refl _ w).alloc (Nat.le_refl _) o).frozen (p := ⟨b, k, none⟩) h
/-- A row stored into a known block is known. -/
theorem Cs.stored {w : World} {b : Nat} {vs : List Value} (us : List Value) (h : Cs w b vs) (hl : us.length = vs.length) : Cs (w.setCells b 0 us) b us :=
  ⟨by rw [size_setCells]; exact h.1, fun k hk => by
    have := World.cell?_setCells_in b us 0 w (fun j hj => by rw [Nat.zero_add, h.2 j (by omega)]; rfl) k hk
    rwa [Nat.zero_add] at this⟩
theorem Cs.other {w : World} {b b' : Nat} {vs : List Value} (us : List Value) (h : Cs w b vs) (hne : b ≠ b') : Cs (w.setCells b' 0 us) b vs :=
  ⟨by rw [size_setCells]; exact h.1, fun k hk => by
    rw [World.cell?_setCells_out _ _ _ _ _ (fun e => absurd e hne)]; exact h.2 k hk⟩
theorem Cs.drew {w : World} {b : Nat} {vs : List Value} (h : Cs w b vs) : Cs w.drew b vs := h
end Go.Proofs.YtjnkbifafbjckaaGreatDoor

/- Plain Lean: eighths of a number are told as they are. -/
namespace Go.Proofs.YtjnkbifafbjckaaGreatDoor.Fl
set_option linter.all false
open Go

theorem wsign_lt (n : Bool) {v : Nat} (h : v < 9218868437227405312) : wsign n + v < 18446744073709551616 := by
  have : wsign n ≤ 9223372036854775808 := by cases n <;> decide
  omega
theorem low_le (t : Nat) : low - t ≤ 2045 := Nat.le_trans (Nat.sub_le _ _) (by decide)
theorem low_expn {t : Nat} (h : t ≤ 52) : ((low - t : Nat) : Int) - 1074 = -(t : Int) := by unfold low; omega
theorem eighth_three {t : Nat} (h : ¬ 3 ≤ t) : -3 < -(t : Int) := by omega
/-- The eighths: nothing is asked of them, or they are told as they are. -/
def eighth (n : Bool) (l : Dc.Bs) (X : Int) (x : Nat) (most : Int) : Prop := ∃ y : Nat, y < 18446744073709551616 ∧ y = wsign n + bits l X ∧
  (neg y = true ∨ -3 < expn y ∨ mant y = 0 ∨ (neg y = false ∧ ∃ t m : Nat, 3 ≤ t ∧ t ≤ 52 ∧ expn y = -(t : Int) ∧ mant y = m ∧ 0 < m ∧ ∀ k, k < 8 → m + k * 2 ^ (t - 3) < 9007199254740992 ∧
    ∃ W, rd (m + k * 2 ^ (t - 3)) (-(t : Int)) false = W ∧ W < 9218868437227405312 ∧ ∃ p q : Nat, ratio W most = ⟨⟨n, l, X, 0⟩, p, q, 0⟩ ∧ p * 8 = k * q))
theorem eighth_all {x : Nat} {n : Bool} {l : Dc.Bs} {X : Int} (hk : kind x < 3) (hr : Dc.right l X = true) (hv : Dc.vv l X = whole x * 10 ^ Dc.lift) (hs : (l.length : Int) + X ≤ 15)
    (hof : ∀ s, whole x < 2 ^ 53 → of s (whole x) 0 = ⟨s, l, X, 0⟩) (most : Int) (hm : 8 ≤ most ∧ most ≤ 200) : eighth n l X x most := by
  have hD := digits_lt hr hv hs
  have hx := Dc.right_exp hr
  have p53 : (2 : Nat) ^ 53 = 9007199254740992 := by decide
  have hof' := hof false (by omega)
  rcases bits_nat (X := X) hx.1 hv hD with ⟨h0, hb⟩ | ⟨h0, t, t1, t2, t3, hb⟩
  · refine ⟨_, ?_, rfl, ?_⟩
    · rw [hb]; exact wsign_lt n (by decide)
    · right; right; left
      rw [hb]; cases n <;> decide
  · obtain ⟨f1, f2, f3, f4, f5, f6⟩ := form_parts (low - t) (whole x * 2 ^ t) (low_le t) t2 t3
    refine ⟨_, ?_, rfl, ?_⟩
    · rw [hb]; exact wsign_lt n f6
    · rw [hb]
      cases n with
      | true => left; unfold neg wsign; simp
      | false =>
        have e : wsign false + ((low - t) * 4503599627370496 + whole x * 2 ^ t) = (low - t) * 4503599627370496 + whole x * 2 ^ t := by unfold wsign; simp
        rw [e, f2, f3]
        by_cases h3 : 3 ≤ t
        · right; right; right
          refine ⟨f4, t, whole x * 2 ^ t, h3, t1, low_expn t1, rfl, Nat.lt_of_lt_of_le (by decide) t2, fun k hk8 => ?_⟩
          exact eighth_ratio h3 t1 t2 t3 hk8 hof' most hm
        · right; left; rw [low_expn t1]; exact eighth_three h3

end Go.Proofs.YtjnkbifafbjckaaGreatDoor.Fl
