/- Plain Lean: the decimals of numbers, and of middles, by their size. -/
import Derived.Test.YtjnkbifafbjckaaGreatDoorZ28
import Derived.Test.YtjnkbifafbjckaaGreatDoorZ26
import Derived.Test.YtjnkbifafbjckaaGreatDoorZ30
namespace Go.Proofs.YtjnkbifafbjckaaGreatDoor.Fl
set_option linter.all false
open Go

theorem expn_j (x : Nat) (h : kind x < 3) : (expn x + 1074).toNat = x % 9223372036854775808 / 4503599627370496 - 1 := by
  have hE : x % 9223372036854775808 / 4503599627370496 = expo x := by rw [expo]; omega
  have hE2 : expo x ≠ 2047 := by
    intro e; unfold kind at h; rw [if_pos e] at h; split at h <;> omega
  rw [hE]
  by_cases h0 : expo x = 0
  · have hk : kind x < 2 := by unfold kind; rw [if_neg hE2, if_neg (by omega)]; split <;> omega
    rw [expn, if_neg (by omega), if_pos hk, h0]; rfl
  · have hk : kind x = 2 := by unfold kind; rw [if_neg hE2, if_pos (by omega)]
    rw [expn, if_pos hk]; omega
theorem V_next (x : Nat) (h : kind x < 3) : V (x % 9223372036854775808 + 1) = (mant x + 1) * 2 ^ (expn x + 1074).toNat := by
  obtain ⟨j, m, -, -, h1, h2, hj⟩ := V_split (x % 9223372036854775808)
  obtain ⟨hp, -⟩ := V_parts x h
  rw [← expn_j x h] at hj
  rw [h1, ← hj] at hp
  rw [h2, ← hj, Nat.eq_of_mul_eq_mul_right (Nat.pow_pos (by decide)) hp]

/-- The decimal of a finite number. -/
theorem dec_is (x : Nat) (h : kind x < 3) : ∃ (l : Dc.Bs) (X : Int), dec x = ⟨neg x, l, X, 0⟩ ∧ Dc.right l X = true ∧ Dc.vv l X * 2 ^ (low + 1) = 2 * V (x % 9223372036854775808) * 10 ^ Dc.lift := by
  obtain ⟨hI, hw⟩ := dec_worth x h
  obtain ⟨-, hs2⟩ := of_sign (neg x) (!neg x) (mant x) (expn x) hI.ok
  refine ⟨_, _, by rw [dec, if_neg (by omega), okd, hs2], hI.right, ?_⟩
  rw [Nat.pow_succ, ← Nat.mul_assoc, hw, Nat.mul_comm _ 2, Nat.mul_assoc]
/-- The middle's; and that of the number with the other sign. -/
theorem mid_is (x : Nat) (hx : x < 18446744073709551616) (h : kind x < 3) : ∃ (l : Dc.Bs) (X : Int), mid x = ⟨neg x, l, X, 0⟩ ∧ mid (flip x) = ⟨!neg x, l, X, 0⟩ ∧ Dc.right l X = true ∧
    Dc.vv l X * 2 ^ (low + 1) = (V (x % 9223372036854775808) + V (x % 9223372036854775808 + 1)) * 10 ^ Dc.lift := by
  have hb := expn_bound x
  have hm := mant_lt x
  have hI := of_is (neg x) (2 * mant x + 1) (expn x - 1) (by omega) (by omega)
  obtain ⟨hs1, hs2⟩ := of_sign (neg x) (!neg x) (2 * mant x + 1) (expn x - 1) hI.ok
  obtain ⟨hp, -⟩ := V_parts x h
  refine ⟨_, _, by rw [mid, if_neg (by omega), okd, hs2], ?_, hI.right, ?_⟩
  · rw [mid, flip_kind hx, if_neg (by omega), flip_neg hx, flip_mant hx, flip_expn hx, hs1, okd]
  · rw [hI.worth, V_next x h, hp, ← Nat.add_mul, show (expn x - 1 + low + 1).toNat = (expn x + 1074).toNat by unfold low; omega]
    congr 2; omega
theorem scale_lt {a b A B : Nat} (ha : a * 2 ^ (low + 1) = A * 10 ^ Dc.lift) (hb : b * 2 ^ (low + 1) = B * 10 ^ Dc.lift) : a < b ↔ A < B := by
  have p1 : 0 < 2 ^ (low + 1) := Nat.pow_pos (by decide)
  have p2 : 0 < 10 ^ Dc.lift := Nat.pow_pos (by decide)
  rw [← Nat.mul_lt_mul_right p1, ha, hb, Nat.mul_lt_mul_right p2]
/-- Two right decimals without a sign. -/
theorem cmp_worth {l m : Dc.Bs} {X Y : Int} {A B : Nat} (hl : Dc.right l X = true) (hm : Dc.right m Y = true) (ha : Dc.vv l X * 2 ^ (low + 1) = A * 10 ^ Dc.lift) (hb : Dc.vv m Y * 2 ^ (low + 1) = B * 10 ^ Dc.lift) :
    Dc.cmpC false l X false m Y = Dc.sg A B := by
  have h1 := scale_lt ha hb
  have h2 := scale_lt hb ha
  rw [Dc.cmpC_sv hl hm]
  unfold Dc.sgz Dc.sg Dc.sv
  simp only [Bool.false_eq_true, if_false, Int.ofNat_lt, h1, h2]
theorem cmp_decs {x y : Nat} {l m : Dc.Bs} {X Y : Int} (hl : Dc.right l X = true) (hm : Dc.right m Y = true) (ha : Dc.vv l X * 2 ^ (low + 1) = 2 * V x * 10 ^ Dc.lift) (hb : Dc.vv m Y * 2 ^ (low + 1) = 2 * V y * 10 ^ Dc.lift) :
    Dc.cmpC false l X false m Y = Dc.sg x y := by
  rw [cmp_worth hl hm ha hb]
  have e : ∀ {x y : Nat}, 2 * V x < 2 * V y ↔ x < y := fun {x y} => by
    constructor
    · intro h
      rcases Nat.lt_or_ge x y with h' | h'
      · exact h'
      · have := V_le h'; omega
    · intro h; have := V_lt h; omega
  exact Dc.sg_congr e e
theorem cmp_mid_low {x : Nat} {l m : Dc.Bs} {X Y : Int} (hl : Dc.right l X = true) (hm : Dc.right m Y = true) (ha : Dc.vv l X * 2 ^ (low + 1) = 2 * V x * 10 ^ Dc.lift) (hb : Dc.vv m Y * 2 ^ (low + 1) = (V x + V (x + 1)) * 10 ^ Dc.lift) :
    Dc.cmpC false l X false m Y = -1 := by
  rw [cmp_worth hl hm ha hb]
  have := V_succ x
  exact Dc.sg_lt (by omega)
theorem cmp_mid_high {x : Nat} {l m : Dc.Bs} {X Y : Int} (hl : Dc.right l X = true) (hm : Dc.right m Y = true) (ha : Dc.vv l X * 2 ^ (low + 1) = (V x + V (x + 1)) * 10 ^ Dc.lift) (hb : Dc.vv m Y * 2 ^ (low + 1) = 2 * V (x + 1) * 10 ^ Dc.lift) :
    Dc.cmpC false l X false m Y = -1 := by
  rw [cmp_worth hl hm ha hb]
  have := V_succ x
  exact Dc.sg_lt (by omega)
theorem kind_next {x : Nat} (hx : x < 9223372036854775808) (h : kind x < 3) (hm : x ≠ 9218868437227405311) : kind (x + 1) < 3 ∧ x + 1 < 9218868437227405312 := by
  obtain ⟨-, hp⟩ := V_parts x h
  have : x + 1 < 9218868437227405312 := by omega
  refine ⟨?_, this⟩
  unfold kind
  rw [if_neg (show expo (x + 1) ≠ 2047 by unfold expo; omega)]
  split
  · omega
  · split <;> omega
end Go.Proofs.YtjnkbifafbjckaaGreatDoor.Fl

/- A greater number is a greater decimal; the middle lies between a number and the next one. -/
namespace Go.Proofs.YtjnkbifafbjckaaGreatDoor
set_option linter.all false
open Go.RowKit
attribute [local go_sem] Dc.Res.val

theorem Fl.str_of {l : Dc.Bs} {X : Int} (h : Dc.right l X = true) : ∃ S : ByteArray, S = ⟨l.toArray⟩ ∧ S.data.toList = l ∧ S.size ≤ 1100 := by
  refine ⟨⟨l.toArray⟩, rfl, rfl, ?_⟩
  rw [← bs_length]; exact Dc.right_len h

set_option maxRecDepth 100000 in
set_option maxHeartbeats 4000000 in
theorem l9_orders_none (x0 y0 x y : Nat) (w : World) (ht : Tab w) (hx : x = x0 % 9223372036854775808) (hy : y = y0 % 9223372036854775808) (hk : 3 ≤ Fl.kind x ∨ 3 ≤ Fl.kind y) :
    Calls Tryz.prog 5 #[.int .u64 x0, .int .u64 y0] w (RetB (.bool true) w) := by
  have HS := Lib.hid (l9_shown_any w ht)
  have hx1 : x < 9223372036854775808 := by omega
  have hy1 : y < 9223372036854775808 := by omega
  have h1 := fun w1 => r3_kind_any x (by omega) w1
  have h2 := fun w1 => r3_kind_any y (by omega) w1
  have hxm : (x0 : Int) % 9223372036854775808 = (x : Int) := by omega
  have hym : (y0 : Int) % 9223372036854775808 = (y : Int) := by omega
  obtain ⟨K, hK⟩ : ∃ K, K = Fl.kind x := ⟨_, rfl⟩
  obtain ⟨J, hJ⟩ : ∃ K, K = Fl.kind y := ⟨_, rfl⟩
  rw [← hK] at h1 hk
  rw [← hJ] at h2 hk
  have H1 := Lib.hid h1; have H2 := Lib.hid h2
  clear h1 h2 hx hy hK hJ
  by_cases c : 3 ≤ K
  · have d1 : decide (3 ≤ (K : Int)) = true := decide_eq_true (by omega)
    clear hk
    go_enter Tryz.func5, Tryz.ntmps5
    go_wp2_with (first
      | (go_at_call 17; (with_reducible refine (HS.out).mono ?_); rintro e w1 ⟨rfl, hb_w1⟩; have hB_w1 : Below (w).heap.size (w) w1 := Below.trans (by (repeat (first | exact Below.refl _ _ | assumption | refine Below.setCell ?_ (by first | omega | (simp <;> omega)) _ | refine Below.alloc ?_ (by first | omega | (simp <;> omega)) _ | refine Below.drew ?_ | refine below_drewN' ?_ _))) (hb_w1.mono (by first | omega | (simp <;> omega))); obtain ⟨hc_w1, hf_w1⟩ := bcell hb_w1; have hz_w1 := hb_w1.size; (try simp only [size_drew', size_drewN', World.size_alloc, World.size_setCell] at hz_w1))
      | (go_at_call 19; (with_reducible refine (H1.out _).mono ?_); rintro e w' ⟨rfl, rfl⟩)
      | (go_at_call 19; (with_reducible refine (H2.out _).mono ?_); rintro e w' ⟨rfl, rfl⟩))
    go_ret
    exact RetB.of rfl (by (repeat (first | exact Below.refl _ _ | assumption | refine Below.setCell ?_ (by first | omega | (simp <;> omega)) _ | refine Below.alloc ?_ (by first | omega | (simp <;> omega)) _ | refine Below.drew ?_ | refine below_drewN' ?_ _)))
  · have d1 : decide (3 ≤ (K : Int)) = false := decide_eq_false (by omega)
    have d2 : decide (3 ≤ (J : Int)) = true := decide_eq_true (by omega)
    clear hk
    go_enter Tryz.func5, Tryz.ntmps5
    go_wp2_with (first
      | (go_at_call 17; (with_reducible refine (HS.out).mono ?_); rintro e w1 ⟨rfl, hb_w1⟩; have hB_w1 : Below (w).heap.size (w) w1 := Below.trans (by (repeat (first | exact Below.refl _ _ | assumption | refine Below.setCell ?_ (by first | omega | (simp <;> omega)) _ | refine Below.alloc ?_ (by first | omega | (simp <;> omega)) _ | refine Below.drew ?_ | refine below_drewN' ?_ _))) (hb_w1.mono (by first | omega | (simp <;> omega))); obtain ⟨hc_w1, hf_w1⟩ := bcell hb_w1; have hz_w1 := hb_w1.size; (try simp only [size_drew', size_drewN', World.size_alloc, World.size_setCell] at hz_w1))
      | (go_at_call 19; (with_reducible refine (H1.out _).mono ?_); rintro e w' ⟨rfl, rfl⟩)
      | (go_at_call 19; (with_reducible refine (H2.out _).mono ?_); rintro e w' ⟨rfl, rfl⟩))
    go_ret
    exact RetB.of rfl (by (repeat (first | exact Below.refl _ _ | assumption | refine Below.setCell ?_ (by first | omega | (simp <;> omega)) _ | refine Below.alloc ?_ (by first | omega | (simp <;> omega)) _ | refine Below.drew ?_ | refine below_drewN' ?_ _)))

/-- The calls on the way: (what is told, what it is told of). -/
theorem Fl.dec_call {x : Nat} {l : Dc.Bs} {X : Int} {S : ByteArray} (hx : x < 18446744073709551616) (hn : Fl.neg x = false) (hd : Fl.dec x = ⟨Fl.neg x, l, X, 0⟩) (hS : S = ⟨l.toArray⟩) (w1 : World) (ht : Tab w1) :
    Calls Tryz.prog 18 #[.int .u64 x] w1 (RetB (.tuple #[.agg #[.bool false, .string S, .int .i64 X], .int .i64 0]) w1) := by
  have h := ex_dec_any x hx w1 ht
  rw [hd, hn] at h
  rw [hS]; exact h
theorem Fl.mid_call {x : Nat} {n : Bool} {l : Dc.Bs} {X : Int} {S : ByteArray} (hx : x < 18446744073709551616) (hd : Fl.mid x = ⟨n, l, X, 0⟩) (hS : S = ⟨l.toArray⟩) (w1 : World) (ht : Tab w1) :
    Calls Tryz.prog 31 #[.int .u64 x] w1 (RetB (.tuple #[.agg #[.bool n, .string S, .int .i64 X], .int .i64 0]) w1) := by
  have h := ex_mid_any x hx w1 ht
  rw [hd] at h
  rw [hS]; exact h
theorem Fl.cmp_call {l m : Dc.Bs} {X Y c : Int} {S T : ByteArray} (hS : S.data.toList = l) (hT : T.data.toList = m) (h1 : S.size ≤ 1100) (h2 : T.size ≤ 1100) (hc : Dc.cmpC false l X false m Y = c) (w1 : World) :
    Calls Tryz.prog 30 #[.agg #[.bool false, .string S, .int .i64 X], .agg #[.bool false, .string T, .int .i64 Y]] w1 (RetB (.int .i64 c) w1) := by
  have h := d_cmp_any false false S T X Y w1 (by omega) (by omega)
  rw [hS, hT, hc] at h
  exact h

set_option maxRecDepth 100000 in
set_option maxHeartbeats 8000000 in
theorem l9_orders_fine (x0 y0 x y : Nat) (w : World) (ht : Tab w) (hx : x = x0 % 9223372036854775808) (hy : y = y0 % 9223372036854775808) (hkx : Fl.kind x < 3) (hky : Fl.kind y < 3) :
    Calls Tryz.prog 5 #[.int .u64 x0, .int .u64 y0] w (RetB (.bool true) w) := by
  have HS := Lib.hid (l9_shown_any w ht)
  have hx1 : x < 9223372036854775808 := by omega
  have hy1 : y < 9223372036854775808 := by omega
  have hxm : (x0 : Int) % 9223372036854775808 = (x : Int) := by omega
  have hym : (y0 : Int) % 9223372036854775808 = (y : Int) := by omega
  have hnx : Fl.neg x = false := decide_eq_false (by omega)
  have hny : Fl.neg y = false := decide_eq_false (by omega)
  have k1 := fun w1 => r3_kind_any x (by omega) w1
  have k2 := fun w1 => r3_kind_any y (by omega) w1
  obtain ⟨lx, Xx, dx1, dx2, dx3⟩ := Fl.dec_is x hkx
  obtain ⟨ly, Xy, dy1, dy2, dy3⟩ := Fl.dec_is y hky
  obtain ⟨lm, Xm, dm1, dm2, dm3, dm4⟩ := Fl.mid_is x (by omega) hkx
  rw [Nat.mod_eq_of_lt hx1] at dx3 dm4
  rw [Nat.mod_eq_of_lt hy1] at dy3
  have c1 := Fl.cmp_decs dx2 dy2 dx3 dy3
  have c2 := Fl.cmp_mid_low dx2 dm3 dx3 dm4
  obtain ⟨Sx, sx1, sx2, sx3⟩ := Fl.str_of dx2
  obtain ⟨Sy, sy1, sy2, sy3⟩ := Fl.str_of dy2
  obtain ⟨Sm, sm1, sm2, sm3⟩ := Fl.str_of dm3
  have hfl : Fl.flip x = x + 9223372036854775808 := by rw [Fl.flip, if_pos hx1]
  obtain ⟨F, hF⟩ : ∃ F, F = x + 9223372036854775808 := ⟨_, rfl⟩
  have hFi : (x : Int) + 9223372036854775808 = (F : Int) := by omega
  have hFl : F < 18446744073709551616 := by omega
  rw [hfl, ← hF, hnx, Bool.not_false] at dm2
  rw [hnx] at dm1
  have A1 := Lib.hid (fun w1 (hb : Below w.heap.size w w1) => Fl.dec_call (by omega) hnx dx1 sx1 w1 (ht.below hb))
  have A2 := Lib.hid (fun w1 (hb : Below w.heap.size w w1) => Fl.dec_call (by omega) hny dy1 sy1 w1 (ht.below hb))
  have M1 := Lib.hid (fun w1 (hb : Below w.heap.size w w1) => Fl.mid_call (by omega) dm1 sm1 w1 (ht.below hb))
  have M2 := Lib.hid (fun w1 (hb : Below w.heap.size w w1) => Fl.mid_call hFl dm2 sm1 w1 (ht.below hb))
  have C1 := Lib.hid (fun w1 => Fl.cmp_call sx2 sy2 sx3 sy3 c1 w1)
  have C2 := Lib.hid (fun w1 => Fl.cmp_call sx2 sm2 sx3 sm3 c2 w1)
  obtain ⟨K, hK⟩ : ∃ K, K = Fl.kind x := ⟨_, rfl⟩
  obtain ⟨J, hJ⟩ : ∃ K, K = Fl.kind y := ⟨_, rfl⟩
  rw [← hK] at k1
  rw [← hJ] at k2
  have d1 : decide (3 ≤ (K : Int)) = false := decide_eq_false (by omega)
  have d2 : decide (3 ≤ (J : Int)) = false := decide_eq_false (by omega)
  have K1 := Lib.hid k1; have K2 := Lib.hid k2
  -- the next number
  have hnext : x = 9218868437227405311 ∨ (x ≠ 9218868437227405311 ∧ ∃ (X1 : Nat) (ln : Dc.Bs) (Xn : Int) (Sn : ByteArray), (x : Int) + 1 = (X1 : Int) ∧ X1 < 9218868437227405312 ∧
      Hid (∀ w1, Below w.heap.size w w1 → Calls Tryz.prog 18 #[.int .u64 X1] w1 (RetB (.tuple #[.agg #[.bool false, .string Sn, .int .i64 Xn], .int .i64 0]) w1)) ∧
      Hid (∀ w1, Calls Tryz.prog 30 #[.agg #[.bool false, .string Sm, .int .i64 Xm], .agg #[.bool false, .string Sn, .int .i64 Xn]] w1 (RetB (.int .i64 (-1)) w1))) := by
    by_cases hm : x = 9218868437227405311
    · exact Or.inl hm
    · obtain ⟨q1, q2⟩ := Fl.kind_next hx1 hkx hm
      obtain ⟨ln, Xn, dn1, dn2, dn3⟩ := Fl.dec_is (x + 1) q1
      rw [Nat.mod_eq_of_lt (by omega)] at dn3
      have c3 := Fl.cmp_mid_high dm3 dn2 dm4 dn3
      obtain ⟨Sn, sn1, sn2, sn3⟩ := Fl.str_of dn2
      exact Or.inr ⟨hm, x + 1, ln, Xn, Sn, by omega, q2, Lib.hid (fun w1 hb => Fl.dec_call (by omega) (decide_eq_false (by omega)) dn1 sn1 w1 (ht.below hb)), Lib.hid (fun w1 => Fl.cmp_call sm2 sn2 sm3 sn3 c3 w1)⟩
  have hsg : (x < y ∧ Dc.sg x y = -1) ∨ (x = y ∧ Dc.sg x y = 0) ∨ (y < x ∧ Dc.sg x y = 1) := by
    rcases Nat.lt_trichotomy x y with h | h | h
    · exact Or.inl ⟨h, Dc.sg_lt h⟩
    · exact Or.inr (Or.inl ⟨h, Dc.sg_eq h⟩)
    · exact Or.inr (Or.inr ⟨h, Dc.sg_gt h⟩)
  obtain ⟨G, hG⟩ : ∃ G, G = Dc.sg x y := ⟨_, rfl⟩
  rw [← hG] at C1 hsg
  have hcmp : ∃ lt eq : Bool, decide ((x : Int) < (y : Int)) = lt ∧ ((x : Int) == (y : Int)) = eq ∧ ((lt = true ∧ eq = false ∧ G = -1 ∧ x < y ∧ x ≠ y) ∨ (lt = false ∧ eq = true ∧ G = 0 ∧ y ≤ x ∧ y ≤ x) ∨ (lt = false ∧ eq = false ∧ G = 1 ∧ y ≤ x ∧ x ≠ y)) := by
    refine ⟨_, _, rfl, rfl, ?_⟩
    rcases hsg with ⟨h, g⟩ | ⟨h, g⟩ | ⟨h, g⟩
    · exact Or.inl ⟨decide_eq_true (by omega), by simp only [beq_eq_false_iff_ne, ne_eq]; omega, g, by omega, by omega⟩
    · exact Or.inr (Or.inl ⟨decide_eq_false (by omega), by simp only [beq_iff_eq]; omega, g, by omega, by omega⟩)
    · exact Or.inr (Or.inr ⟨decide_eq_false (by omega), by simp only [beq_eq_false_iff_ne, ne_eq]; omega, g, by omega, by omega⟩)
  obtain ⟨lt, eq, hlt, heq, hcase⟩ := hcmp
  clear hsg hG k1 k2 hK hJ c1 c2 dx1 dx2 dx3 dy1 dy2 dy3 dm1 dm2 dm3 dm4 sx1 sx2 sx3 sy1 sy2 sy3 sm1 sm2 sm3 hnx hny hfl hF hx hy hkx hky
  rcases hnext with hm | ⟨hm, X1, ln, Xn, Sn, hX1, hX2, A3, C3⟩
  · have hmb : ((x : Int) == 9218868437227405311) = true := by rw [hm]; rfl
    clear hm
    rcases hcase with ⟨rfl, rfl, rfl, hn1, hn2⟩ | ⟨rfl, rfl, rfl, hn1, hn2⟩ | ⟨rfl, rfl, rfl, hn1, hn2⟩
    all_goals (
      go_enter Tryz.func5, Tryz.ntmps5
      go_wp2_with (first
        | (go_at_call 17; (with_reducible refine (HS.out).mono ?_); rintro e w1 ⟨rfl, hb_w1⟩; have hB_w1 : Below (w).heap.size (w) w1 := Below.trans (by (repeat (first | exact Below.refl _ _ | assumption | refine Below.setCell ?_ (by first | omega | (simp <;> omega)) _ | refine Below.alloc ?_ (by first | omega | (simp <;> omega)) _ | refine Below.drew ?_ | refine below_drewN' ?_ _))) (hb_w1.mono (by first | omega | (simp <;> omega))); obtain ⟨hc_w1, hf_w1⟩ := bcell hb_w1; have hz_w1 := hb_w1.size; (try simp only [size_drew', size_drewN', World.size_alloc, World.size_setCell] at hz_w1))
        | (go_at_call 19; (with_reducible refine (K1.out _).mono ?_); rintro e w' ⟨rfl, rfl⟩)
        | (go_at_call 19; (with_reducible refine (K2.out _).mono ?_); rintro e w' ⟨rfl, rfl⟩)
        | (go_at_call 18; (with_reducible refine (A1.out _ (by (repeat (first | exact Below.refl _ _ | assumption | refine Below.setCell ?_ (by first | omega | (simp <;> omega)) _ | refine Below.alloc ?_ (by first | omega | (simp <;> omega)) _ | refine Below.drew ?_ | refine below_drewN' ?_ _)))).mono ?_); rintro e w2 ⟨rfl, hb_w2⟩; have hB_w2 : Below (w).heap.size (w) w2 := Below.trans (by (repeat (first | exact Below.refl _ _ | assumption | refine Below.setCell ?_ (by first | omega | (simp <;> omega)) _ | refine Below.alloc ?_ (by first | omega | (simp <;> omega)) _ | refine Below.drew ?_ | refine below_drewN' ?_ _))) (hb_w2.mono (by first | omega | (simp <;> omega))); obtain ⟨hc_w2, hf_w2⟩ := bcell hb_w2; have hz_w2 := hb_w2.size; (try simp only [size_drew', size_drewN', World.size_alloc, World.size_setCell] at hz_w2))
        | (go_at_call 18; (with_reducible refine (A2.out _ (by (repeat (first | exact Below.refl _ _ | assumption | refine Below.setCell ?_ (by first | omega | (simp <;> omega)) _ | refine Below.alloc ?_ (by first | omega | (simp <;> omega)) _ | refine Below.drew ?_ | refine below_drewN' ?_ _)))).mono ?_); rintro e w3 ⟨rfl, hb_w3⟩; have hB_w3 : Below (w).heap.size (w) w3 := Below.trans (by (repeat (first | exact Below.refl _ _ | assumption | refine Below.setCell ?_ (by first | omega | (simp <;> omega)) _ | refine Below.alloc ?_ (by first | omega | (simp <;> omega)) _ | refine Below.drew ?_ | refine below_drewN' ?_ _))) (hb_w3.mono (by first | omega | (simp <;> omega))); obtain ⟨hc_w3, hf_w3⟩ := bcell hb_w3; have hz_w3 := hb_w3.size; (try simp only [size_drew', size_drewN', World.size_alloc, World.size_setCell] at hz_w3); have hl0_w3 : w2.heap.size < w3.heap.size := (by omega); have hm0_w3 : w2.heap.size ≤ w3.heap.size := (by omega); have hn0_w3 : ¬ w2.heap.size = w3.heap.size := (by omega); have hq0_w3 : ¬ w3.heap.size = w2.heap.size := (by omega); have hr0_w3 := fun o => hc_w3 (w2.heap.size) o (by (try simp only [size_drew', size_drewN', World.size_alloc, World.size_setCell]); omega); have hg0_w3 := fun o => hf_w3 (w2.heap.size) o (by (try simp only [size_drew', size_drewN', World.size_alloc, World.size_setCell]); omega))
        | (go_at_call 30; (with_reducible refine (C1.out _).mono ?_); rintro e w4 ⟨rfl, hb_w4⟩; have hB_w4 : Below (w).heap.size (w) w4 := Below.trans (by (repeat (first | exact Below.refl _ _ | assumption | refine Below.setCell ?_ (by first | omega | (simp <;> omega)) _ | refine Below.alloc ?_ (by first | omega | (simp <;> omega)) _ | refine Below.drew ?_ | refine below_drewN' ?_ _))) (hb_w4.mono (by first | omega | (simp <;> omega))); obtain ⟨hc_w4, hf_w4⟩ := bcell hb_w4; have hz_w4 := hb_w4.size; (try simp only [size_drew', size_drewN', World.size_alloc, World.size_setCell] at hz_w4); have hl0_w4 : w2.heap.size < w4.heap.size := (by omega); have hm0_w4 : w2.heap.size ≤ w4.heap.size := (by omega); have hn0_w4 : ¬ w2.heap.size = w4.heap.size := (by omega); have hq0_w4 : ¬ w4.heap.size = w2.heap.size := (by omega); have hr0_w4 := fun o => hc_w4 (w2.heap.size) o (by (try simp only [size_drew', size_drewN', World.size_alloc, World.size_setCell]); omega); have hg0_w4 := fun o => hf_w4 (w2.heap.size) o (by (try simp only [size_drew', size_drewN', World.size_alloc, World.size_setCell]); omega); have hl1_w4 : w3.heap.size < w4.heap.size := (by omega); have hm1_w4 : w3.heap.size ≤ w4.heap.size := (by omega); have hn1_w4 : ¬ w3.heap.size = w4.heap.size := (by omega); have hq1_w4 : ¬ w4.heap.size = w3.heap.size := (by omega); have hr1_w4 := fun o => hc_w4 (w3.heap.size) o (by (try simp only [size_drew', size_drewN', World.size_alloc, World.size_setCell]); omega); have hg1_w4 := fun o => hf_w4 (w3.heap.size) o (by (try simp only [size_drew', size_drewN', World.size_alloc, World.size_setCell]); omega))
        | (go_at_call 31; (with_reducible refine (M1.out _ (by (repeat (first | exact Below.refl _ _ | assumption | refine Below.setCell ?_ (by first | omega | (simp <;> omega)) _ | refine Below.alloc ?_ (by first | omega | (simp <;> omega)) _ | refine Below.drew ?_ | refine below_drewN' ?_ _)))).mono ?_); rintro e w5 ⟨rfl, hb_w5⟩; have hB_w5 : Below (w).heap.size (w) w5 := Below.trans (by (repeat (first | exact Below.refl _ _ | assumption | refine Below.setCell ?_ (by first | omega | (simp <;> omega)) _ | refine Below.alloc ?_ (by first | omega | (simp <;> omega)) _ | refine Below.drew ?_ | refine below_drewN' ?_ _))) (hb_w5.mono (by first | omega | (simp <;> omega))); obtain ⟨hc_w5, hf_w5⟩ := bcell hb_w5; have hz_w5 := hb_w5.size; (try simp only [size_drew', size_drewN', World.size_alloc, World.size_setCell] at hz_w5); have hl0_w5 : w2.heap.size < w5.heap.size := (by omega); have hm0_w5 : w2.heap.size ≤ w5.heap.size := (by omega); have hn0_w5 : ¬ w2.heap.size = w5.heap.size := (by omega); have hq0_w5 : ¬ w5.heap.size = w2.heap.size := (by omega); have hr0_w5 := fun o => hc_w5 (w2.heap.size) o (by (try simp only [size_drew', size_drewN', World.size_alloc, World.size_setCell]); omega); have hg0_w5 := fun o => hf_w5 (w2.heap.size) o (by (try simp only [size_drew', size_drewN', World.size_alloc, World.size_setCell]); omega))
        | (go_at_call 30; (with_reducible refine (C2.out _).mono ?_); rintro e w6 ⟨rfl, hb_w6⟩; have hB_w6 : Below (w).heap.size (w) w6 := Below.trans (by (repeat (first | exact Below.refl _ _ | assumption | refine Below.setCell ?_ (by first | omega | (simp <;> omega)) _ | refine Below.alloc ?_ (by first | omega | (simp <;> omega)) _ | refine Below.drew ?_ | refine below_drewN' ?_ _))) (hb_w6.mono (by first | omega | (simp <;> omega))); obtain ⟨hc_w6, hf_w6⟩ := bcell hb_w6; have hz_w6 := hb_w6.size; (try simp only [size_drew', size_drewN', World.size_alloc, World.size_setCell] at hz_w6); have hl0_w6 : w2.heap.size < w6.heap.size := (by omega); have hm0_w6 : w2.heap.size ≤ w6.heap.size := (by omega); have hn0_w6 : ¬ w2.heap.size = w6.heap.size := (by omega); have hq0_w6 : ¬ w6.heap.size = w2.heap.size := (by omega); have hr0_w6 := fun o => hc_w6 (w2.heap.size) o (by (try simp only [size_drew', size_drewN', World.size_alloc, World.size_setCell]); omega); have hg0_w6 := fun o => hf_w6 (w2.heap.size) o (by (try simp only [size_drew', size_drewN', World.size_alloc, World.size_setCell]); omega); have hl1_w6 : w5.heap.size < w6.heap.size := (by omega); have hm1_w6 : w5.heap.size ≤ w6.heap.size := (by omega); have hn1_w6 : ¬ w5.heap.size = w6.heap.size := (by omega); have hq1_w6 : ¬ w6.heap.size = w5.heap.size := (by omega); have hr1_w6 := fun o => hc_w6 (w5.heap.size) o (by (try simp only [size_drew', size_drewN', World.size_alloc, World.size_setCell]); omega); have hg1_w6 := fun o => hf_w6 (w5.heap.size) o (by (try simp only [size_drew', size_drewN', World.size_alloc, World.size_setCell]); omega)))
      go_ret
      exact RetB.of rfl (by (repeat (first | exact Below.refl _ _ | assumption | refine Below.setCell ?_ (by first | omega | (simp <;> omega)) _ | refine Below.alloc ?_ (by first | omega | (simp <;> omega)) _ | refine Below.drew ?_ | refine below_drewN' ?_ _))))
  · have hmb : ((x : Int) == 9218868437227405311) = false := by simp only [beq_eq_false_iff_ne, ne_eq]; omega
    rcases hcase with ⟨rfl, rfl, rfl, hn1, hn2⟩ | ⟨rfl, rfl, rfl, hn1, hn2⟩ | ⟨rfl, rfl, rfl, hn1, hn2⟩
    all_goals (
      go_enter Tryz.func5, Tryz.ntmps5
      go_wp2_with (first
        | (go_at_call 17; (with_reducible refine (HS.out).mono ?_); rintro e w1 ⟨rfl, hb_w1⟩; have hB_w1 : Below (w).heap.size (w) w1 := Below.trans (by (repeat (first | exact Below.refl _ _ | assumption | refine Below.setCell ?_ (by first | omega | (simp <;> omega)) _ | refine Below.alloc ?_ (by first | omega | (simp <;> omega)) _ | refine Below.drew ?_ | refine below_drewN' ?_ _))) (hb_w1.mono (by first | omega | (simp <;> omega))); obtain ⟨hc_w1, hf_w1⟩ := bcell hb_w1; have hz_w1 := hb_w1.size; (try simp only [size_drew', size_drewN', World.size_alloc, World.size_setCell] at hz_w1))
        | (go_at_call 19; (with_reducible refine (K1.out _).mono ?_); rintro e w' ⟨rfl, rfl⟩)
        | (go_at_call 19; (with_reducible refine (K2.out _).mono ?_); rintro e w' ⟨rfl, rfl⟩)
        | (go_at_call 18; (with_reducible refine (A1.out _ (by (repeat (first | exact Below.refl _ _ | assumption | refine Below.setCell ?_ (by first | omega | (simp <;> omega)) _ | refine Below.alloc ?_ (by first | omega | (simp <;> omega)) _ | refine Below.drew ?_ | refine below_drewN' ?_ _)))).mono ?_); rintro e w2 ⟨rfl, hb_w2⟩; have hB_w2 : Below (w).heap.size (w) w2 := Below.trans (by (repeat (first | exact Below.refl _ _ | assumption | refine Below.setCell ?_ (by first | omega | (simp <;> omega)) _ | refine Below.alloc ?_ (by first | omega | (simp <;> omega)) _ | refine Below.drew ?_ | refine below_drewN' ?_ _))) (hb_w2.mono (by first | omega | (simp <;> omega))); obtain ⟨hc_w2, hf_w2⟩ := bcell hb_w2; have hz_w2 := hb_w2.size; (try simp only [size_drew', size_drewN', World.size_alloc, World.size_setCell] at hz_w2))
        | (go_at_call 18; (with_reducible refine (A2.out _ (by (repeat (first | exact Below.refl _ _ | assumption | refine Below.setCell ?_ (by first | omega | (simp <;> omega)) _ | refine Below.alloc ?_ (by first | omega | (simp <;> omega)) _ | refine Below.drew ?_ | refine below_drewN' ?_ _)))).mono ?_); rintro e w3 ⟨rfl, hb_w3⟩; have hB_w3 : Below (w).heap.size (w) w3 := Below.trans (by (repeat (first | exact Below.refl _ _ | assumption | refine Below.setCell ?_ (by first | omega | (simp <;> omega)) _ | refine Below.alloc ?_ (by first | omega | (simp <;> omega)) _ | refine Below.drew ?_ | refine below_drewN' ?_ _))) (hb_w3.mono (by first | omega | (simp <;> omega))); obtain ⟨hc_w3, hf_w3⟩ := bcell hb_w3; have hz_w3 := hb_w3.size; (try simp only [size_drew', size_drewN', World.size_alloc, World.size_setCell] at hz_w3); have hl0_w3 : w2.heap.size < w3.heap.size := (by omega); have hm0_w3 : w2.heap.size ≤ w3.heap.size := (by omega); have hn0_w3 : ¬ w2.heap.size = w3.heap.size := (by omega); have hq0_w3 : ¬ w3.heap.size = w2.heap.size := (by omega); have hr0_w3 := fun o => hc_w3 (w2.heap.size) o (by (try simp only [size_drew', size_drewN', World.size_alloc, World.size_setCell]); omega); have hg0_w3 := fun o => hf_w3 (w2.heap.size) o (by (try simp only [size_drew', size_drewN', World.size_alloc, World.size_setCell]); omega))
        | (go_at_call 30; (with_reducible refine (C1.out _).mono ?_); rintro e w4 ⟨rfl, hb_w4⟩; have hB_w4 : Below (w).heap.size (w) w4 := Below.trans (by (repeat (first | exact Below.refl _ _ | assumption | refine Below.setCell ?_ (by first | omega | (simp <;> omega)) _ | refine Below.alloc ?_ (by first | omega | (simp <;> omega)) _ | refine Below.drew ?_ | refine below_drewN' ?_ _))) (hb_w4.mono (by first | omega | (simp <;> omega))); obtain ⟨hc_w4, hf_w4⟩ := bcell hb_w4; have hz_w4 := hb_w4.size; (try simp only [size_drew', size_drewN', World.size_alloc, World.size_setCell] at hz_w4); have hl0_w4 : w2.heap.size < w4.heap.size := (by omega); have hm0_w4 : w2.heap.size ≤ w4.heap.size := (by omega); have hn0_w4 : ¬ w2.heap.size = w4.heap.size := (by omega); have hq0_w4 : ¬ w4.heap.size = w2.heap.size := (by omega); have hr0_w4 := fun o => hc_w4 (w2.heap.size) o (by (try simp only [size_drew', size_drewN', World.size_alloc, World.size_setCell]); omega); have hg0_w4 := fun o => hf_w4 (w2.heap.size) o (by (try simp only [size_drew', size_drewN', World.size_alloc, World.size_setCell]); omega); have hl1_w4 : w3.heap.size < w4.heap.size := (by omega); have hm1_w4 : w3.heap.size ≤ w4.heap.size := (by omega); have hn1_w4 : ¬ w3.heap.size = w4.heap.size := (by omega); have hq1_w4 : ¬ w4.heap.size = w3.heap.size := (by omega); have hr1_w4 := fun o => hc_w4 (w3.heap.size) o (by (try simp only [size_drew', size_drewN', World.size_alloc, World.size_setCell]); omega); have hg1_w4 := fun o => hf_w4 (w3.heap.size) o (by (try simp only [size_drew', size_drewN', World.size_alloc, World.size_setCell]); omega))
        | (go_at_call 31; (with_reducible refine (M1.out _ (by (repeat (first | exact Below.refl _ _ | assumption | refine Below.setCell ?_ (by first | omega | (simp <;> omega)) _ | refine Below.alloc ?_ (by first | omega | (simp <;> omega)) _ | refine Below.drew ?_ | refine below_drewN' ?_ _)))).mono ?_); rintro e w5 ⟨rfl, hb_w5⟩; have hB_w5 : Below (w).heap.size (w) w5 := Below.trans (by (repeat (first | exact Below.refl _ _ | assumption | refine Below.setCell ?_ (by first | omega | (simp <;> omega)) _ | refine Below.alloc ?_ (by first | omega | (simp <;> omega)) _ | refine Below.drew ?_ | refine below_drewN' ?_ _))) (hb_w5.mono (by first | omega | (simp <;> omega))); obtain ⟨hc_w5, hf_w5⟩ := bcell hb_w5; have hz_w5 := hb_w5.size; (try simp only [size_drew', size_drewN', World.size_alloc, World.size_setCell] at hz_w5); have hl0_w5 : w2.heap.size < w5.heap.size := (by omega); have hm0_w5 : w2.heap.size ≤ w5.heap.size := (by omega); have hn0_w5 : ¬ w2.heap.size = w5.heap.size := (by omega); have hq0_w5 : ¬ w5.heap.size = w2.heap.size := (by omega); have hr0_w5 := fun o => hc_w5 (w2.heap.size) o (by (try simp only [size_drew', size_drewN', World.size_alloc, World.size_setCell]); omega); have hg0_w5 := fun o => hf_w5 (w2.heap.size) o (by (try simp only [size_drew', size_drewN', World.size_alloc, World.size_setCell]); omega))
        | (go_at_call 30; (with_reducible refine (C2.out _).mono ?_); rintro e w6 ⟨rfl, hb_w6⟩; have hB_w6 : Below (w).heap.size (w) w6 := Below.trans (by (repeat (first | exact Below.refl _ _ | assumption | refine Below.setCell ?_ (by first | omega | (simp <;> omega)) _ | refine Below.alloc ?_ (by first | omega | (simp <;> omega)) _ | refine Below.drew ?_ | refine below_drewN' ?_ _))) (hb_w6.mono (by first | omega | (simp <;> omega))); obtain ⟨hc_w6, hf_w6⟩ := bcell hb_w6; have hz_w6 := hb_w6.size; (try simp only [size_drew', size_drewN', World.size_alloc, World.size_setCell] at hz_w6); have hl0_w6 : w2.heap.size < w6.heap.size := (by omega); have hm0_w6 : w2.heap.size ≤ w6.heap.size := (by omega); have hn0_w6 : ¬ w2.heap.size = w6.heap.size := (by omega); have hq0_w6 : ¬ w6.heap.size = w2.heap.size := (by omega); have hr0_w6 := fun o => hc_w6 (w2.heap.size) o (by (try simp only [size_drew', size_drewN', World.size_alloc, World.size_setCell]); omega); have hg0_w6 := fun o => hf_w6 (w2.heap.size) o (by (try simp only [size_drew', size_drewN', World.size_alloc, World.size_setCell]); omega); have hl1_w6 : w5.heap.size < w6.heap.size := (by omega); have hm1_w6 : w5.heap.size ≤ w6.heap.size := (by omega); have hn1_w6 : ¬ w5.heap.size = w6.heap.size := (by omega); have hq1_w6 : ¬ w6.heap.size = w5.heap.size := (by omega); have hr1_w6 := fun o => hc_w6 (w5.heap.size) o (by (try simp only [size_drew', size_drewN', World.size_alloc, World.size_setCell]); omega); have hg1_w6 := fun o => hf_w6 (w5.heap.size) o (by (try simp only [size_drew', size_drewN', World.size_alloc, World.size_setCell]); omega))
        | (go_at_call 18; (with_reducible refine (A3.out _ (by (repeat (first | exact Below.refl _ _ | assumption | refine Below.setCell ?_ (by first | omega | (simp <;> omega)) _ | refine Below.alloc ?_ (by first | omega | (simp <;> omega)) _ | refine Below.drew ?_ | refine below_drewN' ?_ _)))).mono ?_); rintro e w7 ⟨rfl, hb_w7⟩; have hB_w7 : Below (w).heap.size (w) w7 := Below.trans (by (repeat (first | exact Below.refl _ _ | assumption | refine Below.setCell ?_ (by first | omega | (simp <;> omega)) _ | refine Below.alloc ?_ (by first | omega | (simp <;> omega)) _ | refine Below.drew ?_ | refine below_drewN' ?_ _))) (hb_w7.mono (by first | omega | (simp <;> omega))); obtain ⟨hc_w7, hf_w7⟩ := bcell hb_w7; have hz_w7 := hb_w7.size; (try simp only [size_drew', size_drewN', World.size_alloc, World.size_setCell] at hz_w7); have hl0_w7 : w5.heap.size < w7.heap.size := (by omega); have hm0_w7 : w5.heap.size ≤ w7.heap.size := (by omega); have hn0_w7 : ¬ w5.heap.size = w7.heap.size := (by omega); have hq0_w7 : ¬ w7.heap.size = w5.heap.size := (by omega); have hr0_w7 := fun o => hc_w7 (w5.heap.size) o (by (try simp only [size_drew', size_drewN', World.size_alloc, World.size_setCell]); omega); have hg0_w7 := fun o => hf_w7 (w5.heap.size) o (by (try simp only [size_drew', size_drewN', World.size_alloc, World.size_setCell]); omega))
        | (go_at_call 31; (with_reducible refine (M2.out _ (by (repeat (first | exact Below.refl _ _ | assumption | refine Below.setCell ?_ (by first | omega | (simp <;> omega)) _ | refine Below.alloc ?_ (by first | omega | (simp <;> omega)) _ | refine Below.drew ?_ | refine below_drewN' ?_ _)))).mono ?_); rintro e w8 ⟨rfl, hb_w8⟩; have hB_w8 : Below (w).heap.size (w) w8 := Below.trans (by (repeat (first | exact Below.refl _ _ | assumption | refine Below.setCell ?_ (by first | omega | (simp <;> omega)) _ | refine Below.alloc ?_ (by first | omega | (simp <;> omega)) _ | refine Below.drew ?_ | refine below_drewN' ?_ _))) (hb_w8.mono (by first | omega | (simp <;> omega))); obtain ⟨hc_w8, hf_w8⟩ := bcell hb_w8; have hz_w8 := hb_w8.size; (try simp only [size_drew', size_drewN', World.size_alloc, World.size_setCell] at hz_w8); have hl0_w8 : w5.heap.size < w8.heap.size := (by omega); have hm0_w8 : w5.heap.size ≤ w8.heap.size := (by omega); have hn0_w8 : ¬ w5.heap.size = w8.heap.size := (by omega); have hq0_w8 : ¬ w8.heap.size = w5.heap.size := (by omega); have hr0_w8 := fun o => hc_w8 (w5.heap.size) o (by (try simp only [size_drew', size_drewN', World.size_alloc, World.size_setCell]); omega); have hg0_w8 := fun o => hf_w8 (w5.heap.size) o (by (try simp only [size_drew', size_drewN', World.size_alloc, World.size_setCell]); omega); have hl1_w8 : w7.heap.size < w8.heap.size := (by omega); have hm1_w8 : w7.heap.size ≤ w8.heap.size := (by omega); have hn1_w8 : ¬ w7.heap.size = w8.heap.size := (by omega); have hq1_w8 : ¬ w8.heap.size = w7.heap.size := (by omega); have hr1_w8 := fun o => hc_w8 (w7.heap.size) o (by (try simp only [size_drew', size_drewN', World.size_alloc, World.size_setCell]); omega); have hg1_w8 := fun o => hf_w8 (w7.heap.size) o (by (try simp only [size_drew', size_drewN', World.size_alloc, World.size_setCell]); omega))
        | (go_at_call 30; (with_reducible refine (C3.out _).mono ?_); rintro e w9 ⟨rfl, hb_w9⟩; have hB_w9 : Below (w).heap.size (w) w9 := Below.trans (by (repeat (first | exact Below.refl _ _ | assumption | refine Below.setCell ?_ (by first | omega | (simp <;> omega)) _ | refine Below.alloc ?_ (by first | omega | (simp <;> omega)) _ | refine Below.drew ?_ | refine below_drewN' ?_ _))) (hb_w9.mono (by first | omega | (simp <;> omega))); obtain ⟨hc_w9, hf_w9⟩ := bcell hb_w9; have hz_w9 := hb_w9.size; (try simp only [size_drew', size_drewN', World.size_alloc, World.size_setCell] at hz_w9); have hl0_w9 : w5.heap.size < w9.heap.size := (by omega); have hm0_w9 : w5.heap.size ≤ w9.heap.size := (by omega); have hn0_w9 : ¬ w5.heap.size = w9.heap.size := (by omega); have hq0_w9 : ¬ w9.heap.size = w5.heap.size := (by omega); have hr0_w9 := fun o => hc_w9 (w5.heap.size) o (by (try simp only [size_drew', size_drewN', World.size_alloc, World.size_setCell]); omega); have hg0_w9 := fun o => hf_w9 (w5.heap.size) o (by (try simp only [size_drew', size_drewN', World.size_alloc, World.size_setCell]); omega); have hl1_w9 : w7.heap.size < w9.heap.size := (by omega); have hm1_w9 : w7.heap.size ≤ w9.heap.size := (by omega); have hn1_w9 : ¬ w7.heap.size = w9.heap.size := (by omega); have hq1_w9 : ¬ w9.heap.size = w7.heap.size := (by omega); have hr1_w9 := fun o => hc_w9 (w7.heap.size) o (by (try simp only [size_drew', size_drewN', World.size_alloc, World.size_setCell]); omega); have hg1_w9 := fun o => hf_w9 (w7.heap.size) o (by (try simp only [size_drew', size_drewN', World.size_alloc, World.size_setCell]); omega); have hl2_w9 : w8.heap.size < w9.heap.size := (by omega); have hm2_w9 : w8.heap.size ≤ w9.heap.size := (by omega); have hn2_w9 : ¬ w8.heap.size = w9.heap.size := (by omega); have hq2_w9 : ¬ w9.heap.size = w8.heap.size := (by omega); have hr2_w9 := fun o => hc_w9 (w8.heap.size) o (by (try simp only [size_drew', size_drewN', World.size_alloc, World.size_setCell]); omega); have hg2_w9 := fun o => hf_w9 (w8.heap.size) o (by (try simp only [size_drew', size_drewN', World.size_alloc, World.size_setCell]); omega)))
      go_ret
      exact RetB.of rfl (by (repeat (first | exact Below.refl _ _ | assumption | refine Below.setCell ?_ (by first | omega | (simp <;> omega)) _ | refine Below.alloc ?_ (by first | omega | (simp <;> omega)) _ | refine Below.drew ?_ | refine below_drewN' ?_ _))))

theorem l9_orders_any (x0 y0 : Nat) (w : World) (ht : Tab w) (hx : x0 < 18446744073709551616) (hy : y0 < 18446744073709551616) :
    Calls Tryz.prog 5 #[.int .u64 x0, .int .u64 y0] w (RetB (.bool true) w) := by
  by_cases h : Fl.kind (x0 % 9223372036854775808) < 3 ∧ Fl.kind (y0 % 9223372036854775808) < 3
  · exact l9_orders_fine x0 y0 _ _ w ht rfl rfl h.1 h.2
  · exact l9_orders_none x0 y0 _ _ w ht rfl rfl (by omega)
end Go.Proofs.YtjnkbifafbjckaaGreatDoor
