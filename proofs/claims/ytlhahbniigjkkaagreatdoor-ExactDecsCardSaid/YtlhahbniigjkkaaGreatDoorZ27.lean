/- The reference: which of two fractions is nearer. -/
import Derived.Test.YtlhahbniigjkkaaGreatDoorZ17
import Derived.Test.YtlhahbniigjkkaaGreatDoorZ26
import Derived.Test.YtlhahbniigjkkaaGreatDoorZ11
namespace Go.Proofs.YtlhahbniigjkkaaGreatDoor
set_option linter.all false
open Go.RowKit

/-- A list times a small number, by the reference. -/
theorem Fl.times1_any (a : Option Addr) (c n k : Nat) (a2 : Option Addr) (c2 : Nat) (w : World) (h : Sl w a c (Na.limbs n)) (h2 : Sl w a2 c2 (Na.limbs k)) (hn : n < Na.B ^ 60) (hk : k < Na.B ^ 2) :
    Calls Tryz.prog 52 #[.slice a (Na.limbs n).length c, .slice a2 (Na.limbs k).length c2] w (GivesZ (Na.limbs (n * k)) w) := by
  have hln := Na.limbs_len_le _ _ hn
  have hlk := Na.limbs_len_le _ _ hk
  have := r1_times_any a c (Na.limbs n) a2 c2 (Na.limbs k) w h h2 (by omega) (by omega)
  rwa [Na.val_limbs, Na.val_limbs] at this
theorem Fl.prod_lt {n k a b : Nat} (hn : n < Na.B ^ a) (hk : k < Na.B ^ b) : n * k < Na.B ^ (a + b) := by
  rw [Nat.pow_add]
  exact Nat.mul_lt_mul_of_lt_of_le hn (Nat.le_of_lt hk) (Nat.pow_pos (by decide))
theorem Fl.small_k {k : Nat} (h : k ≤ 100000) : k < Na.B ^ 1 := Nat.lt_of_le_of_lt h (by decide)

set_option maxHeartbeats 2000000 in
theorem r9_gap_any (ra ua : Option Addr) (rc uc r u p q : Nat) (w : World) (hr : Sl w ra rc (Na.limbs r)) (hu : Sl w ua uc (Na.limbs u)) (hrl : r < Na.B ^ 40) (hul : u < Na.B ^ 40) (hp : p ≤ 100000) (hq : q ≤ 100000) :
    Calls Tryz.prog 100 #[.slice ra (Na.limbs r).length rc, .slice ua (Na.limbs u).length uc, .int .i64 p, .int .i64 q] w (GivesZ (Na.limbs (Fl.gap r u p q)) w) := by
  have HR := Lib.hid hr; have HU := Lib.hid hu
  have hx : r * q < Na.B ^ 41 := Fl.prod_lt hrl (Fl.small_k hq)
  have hy : u * p < Na.B ^ 41 := Fl.prod_lt hul (Fl.small_k hp)
  have lx := Na.limbs_len_le _ _ hx
  have ly := Na.limbs_len_le _ _ hy
  have HN1 := Lib.hid (fun w1 => r3_nat_any q (by omega) w1)
  have HN2 := Lib.hid (fun w1 => r3_nat_any p (by omega) w1)
  have HT1 := Lib.hid (fun w1 a2 c2 (hb : Below w.heap.size w w1) (h2 : Sl w1 a2 c2 (Na.limbs q)) => Fl.times1_any ra rc r q a2 c2 w1 (HR.out.on hb) h2 (Nat.lt_of_lt_of_le hrl (Nat.pow_le_pow_right (by decide) (by decide))) (Nat.lt_of_le_of_lt hq (by decide)))
  have HT2 := Lib.hid (fun w1 a2 c2 (hb : Below w.heap.size w w1) (h2 : Sl w1 a2 c2 (Na.limbs p)) => Fl.times1_any ua uc u p a2 c2 w1 (HU.out.on hb) h2 (Nat.lt_of_lt_of_le hul (Nat.pow_le_pow_right (by decide) (by decide))) (Nat.lt_of_le_of_lt hp (by decide)))
  obtain ⟨x, hxe⟩ : ∃ x, x = r * q := ⟨_, rfl⟩
  obtain ⟨y, hye⟩ : ∃ x, x = u * p := ⟨_, rfl⟩
  have hgap : Fl.gap r u p q = if x < y then y - x else x - y := by rw [hxe, hye]; rfl
  rw [← hxe] at lx HT1
  rw [← hye] at ly HT2
  have HC := Lib.hid (fun w1 a1 c1 a2 c2 (s1 : Sl w1 a1 c1 (Na.limbs x)) (z1 : a1 = none → c1 = 0) (s2 : Sl w1 a2 c2 (Na.limbs y)) (z2 : a2 = none → c2 = 0) => r1_cmp_any a1 c1 (Na.limbs x) a2 c2 (Na.limbs y) w1 s1 z1 s2 z2 (by omega) (by omega))
  rw [hgap]
  clear hr hu hx hy hxe hye hgap
  by_cases hlt : x < y
  · rw [if_pos hlt]
    have hc : Na.cmp (Na.limbs x) (Na.limbs y) = -1 := Na.cmp_lt (by rw [Na.val_limbs, Na.val_limbs]; exact hlt)
    rw [hc] at HC
    have HL := Lib.hid (fun w1 a1 c1 a2 c2 (s1 : Sl w1 a1 c1 (Na.limbs y)) (s2 : Sl w1 a2 c2 (Na.limbs x)) => (by
      have := r1_less_any a1 c1 (Na.limbs y) a2 c2 (Na.limbs x) w1 s1 s2 (by omega) (by omega) (by rw [Na.val_limbs, Na.val_limbs]; omega)
      rw [Na.val_limbs, Na.val_limbs] at this; exact this : Calls Tryz.prog 98 #[.slice a1 (Na.limbs y).length c1, .slice a2 (Na.limbs x).length c2] w1 (GivesZ (Na.limbs (y - x)) w1)))
    clear hc hlt
    go_enter Tryz.func100, Tryz.ntmps100
    go_wp2_with (first
      | (go_at_call 28; (with_reducible refine (HN1.out _).mono ?_); rintro e w1 ⟨a1, c1, rfl, s1, -, -, hb1⟩)
      | (go_at_call 52; (with_reducible refine (HT1.out _ _ _ hb1 s1).mono ?_); rintro e w2 ⟨a2, c2, rfl, s2, z2, -, hb2⟩; have hB2 := hb1.trans (hb2.mono hb1.size))
      | (go_at_call 28; (with_reducible refine (HN2.out _).mono ?_); rintro e w3 ⟨a3, c3, rfl, s3, -, -, hb3⟩; have hB3 := hB2.trans (hb3.mono hB2.size); have s2' := s2.on hb3)
      | (go_at_call 52; (with_reducible refine (HT2.out _ _ _ hB3 s3).mono ?_); rintro e w4 ⟨a4, c4, rfl, s4, z4, -, hb4⟩; have hB4 := hB3.trans (hb4.mono hB3.size); have s2'' := s2'.on hb4)
      | (go_at_call 97; (with_reducible refine (HC.out _ _ _ _ _ s2'' z2 s4 z4).mono ?_); rintro e w5 ⟨rfl, hb5⟩; have hB5 := hB4.trans (hb5.mono hB4.size); have s25 := s2''.on hb5; have s45 := s4.on hb5)
      | (go_at_call 98; (with_reducible refine (HL.out _ _ _ _ _ s45 s25).mono ?_); rintro e w6 ⟨a6, c6, rfl, s6, z6, r6, hb6⟩))
    go_ret
    exact ⟨a6, c6, rfl, s6, z6, r6.mono hB5.size, hB5.trans (hb6.mono hB5.size)⟩
  · rw [if_neg hlt]
    obtain ⟨z, hz⟩ : ∃ z, z = Na.cmp (Na.limbs x) (Na.limbs y) := ⟨_, rfl⟩
    have hz0 : ¬ z < 0 := by
      rw [hz, Na.cmp, Na.val_limbs, Na.val_limbs, if_neg hlt]; split <;> omega
    rw [← hz] at HC
    have HL := Lib.hid (fun w1 a1 c1 a2 c2 (s1 : Sl w1 a1 c1 (Na.limbs x)) (s2 : Sl w1 a2 c2 (Na.limbs y)) => (by
      have := r1_less_any a1 c1 (Na.limbs x) a2 c2 (Na.limbs y) w1 s1 s2 (by omega) (by omega) (by rw [Na.val_limbs, Na.val_limbs]; omega)
      rw [Na.val_limbs, Na.val_limbs] at this; exact this : Calls Tryz.prog 98 #[.slice a1 (Na.limbs x).length c1, .slice a2 (Na.limbs y).length c2] w1 (GivesZ (Na.limbs (x - y)) w1)))
    clear hz hlt
    go_enter Tryz.func100, Tryz.ntmps100
    go_wp2_with (first
      | (go_at_call 28; (with_reducible refine (HN1.out _).mono ?_); rintro e w1 ⟨a1, c1, rfl, s1, -, -, hb1⟩)
      | (go_at_call 52; (with_reducible refine (HT1.out _ _ _ hb1 s1).mono ?_); rintro e w2 ⟨a2, c2, rfl, s2, z2, -, hb2⟩; have hB2 := hb1.trans (hb2.mono hb1.size))
      | (go_at_call 28; (with_reducible refine (HN2.out _).mono ?_); rintro e w3 ⟨a3, c3, rfl, s3, -, -, hb3⟩; have hB3 := hB2.trans (hb3.mono hB2.size); have s2' := s2.on hb3)
      | (go_at_call 52; (with_reducible refine (HT2.out _ _ _ hB3 s3).mono ?_); rintro e w4 ⟨a4, c4, rfl, s4, z4, -, hb4⟩; have hB4 := hB3.trans (hb4.mono hB3.size); have s2'' := s2'.on hb4)
      | (go_at_call 97; (with_reducible refine (HC.out _ _ _ _ _ s2'' z2 s4 z4).mono ?_); rintro e w5 ⟨rfl, hb5⟩; have hB5 := hB4.trans (hb5.mono hB4.size); have s25 := s2''.on hb5; have s45 := s4.on hb5)
      | (go_at_call 98; (with_reducible refine (HL.out _ _ _ _ _ s25 s45).mono ?_); rintro e w6 ⟨a6, c6, rfl, s6, z6, r6, hb6⟩))
    go_ret
    exact ⟨a6, c6, rfl, s6, z6, r6.mono hB5.size, hB5.trans (hb6.mono hB5.size)⟩

theorem Fl.gap_lt {r u p q : Nat} (hr : r < Na.B ^ 40) (hu : u < Na.B ^ 40) (hp : p ≤ 100000) (hq : q ≤ 100000) : Fl.gap r u p q < Na.B ^ 41 := by
  have hx : r * q < Na.B ^ 41 := Fl.prod_lt hr (Fl.small_k hq)
  have hy : u * p < Na.B ^ 41 := Fl.prod_lt hu (Fl.small_k hp)
  unfold Fl.gap; split <;> omega

set_option maxHeartbeats 2000000 in
theorem r9_nearer_any (ra ua : Option Addr) (rc uc r u p q : Nat) (b : Nat × Nat) (w : World) (hr : Sl w ra rc (Na.limbs r)) (hu : Sl w ua uc (Na.limbs u)) (hrl : r < Na.B ^ 40) (hul : u < Na.B ^ 40) (hp : p ≤ 100000) (hq : q ≤ 100000) (hb1 : b.1 ≤ 100000) (hb2 : b.2 ≤ 100000) :
    Calls Tryz.prog 54 #[.slice ra (Na.limbs r).length rc, .slice ua (Na.limbs u).length uc, .int .i64 p, .int .i64 q, .int .i64 b.1, .int .i64 b.2] w (RetB (.bool (Fl.nearer r u p q b)) w) := by
  obtain ⟨s, t⟩ := b
  simp only at *
  have HR := Lib.hid hr; have HU := Lib.hid hu
  have l1 := Fl.gap_lt hrl hul hp hq
  have l2 := Fl.gap_lt hrl hul hb1 hb2
  have HG1 := Lib.hid (fun w1 (hb : Below w.heap.size w w1) => r9_gap_any ra ua rc uc r u p q w1 (HR.out.on hb) (HU.out.on hb) hrl hul hp hq)
  have HG2 := Lib.hid (fun w1 (hb : Below w.heap.size w w1) => r9_gap_any ra ua rc uc r u s t w1 (HR.out.on hb) (HU.out.on hb) hrl hul hb1 hb2)
  have HN1 := Lib.hid (fun w1 => r3_nat_any t (by omega) w1)
  have HN2 := Lib.hid (fun w1 => r3_nat_any q (by omega) w1)
  obtain ⟨x, hxe⟩ : ∃ x, x = Fl.gap r u p q := ⟨_, rfl⟩
  obtain ⟨y, hye⟩ : ∃ x, x = Fl.gap r u s t := ⟨_, rfl⟩
  have hnr : Fl.nearer r u p q (s, t) = decide (x * t < y * q) := by rw [hxe, hye]; rfl
  rw [← hxe] at l1 HG1
  rw [← hye] at l2 HG2
  have HT1 := Lib.hid (fun w1 a1 c1 a2 c2 (h1 : Sl w1 a1 c1 (Na.limbs x)) (h2 : Sl w1 a2 c2 (Na.limbs t)) => Fl.times1_any a1 c1 x t a2 c2 w1 h1 h2 (Nat.lt_of_lt_of_le l1 (Nat.pow_le_pow_right (by decide) (by decide))) (Nat.lt_of_le_of_lt hb2 (by decide)))
  have HT2 := Lib.hid (fun w1 a1 c1 a2 c2 (h1 : Sl w1 a1 c1 (Na.limbs y)) (h2 : Sl w1 a2 c2 (Na.limbs q)) => Fl.times1_any a1 c1 y q a2 c2 w1 h1 h2 (Nat.lt_of_lt_of_le l2 (Nat.pow_le_pow_right (by decide) (by decide))) (Nat.lt_of_le_of_lt hq (by decide)))
  have m1 := Na.limbs_len_le _ _ (Fl.prod_lt l1 (Fl.small_k hb2))
  have m2 := Na.limbs_len_le _ _ (Fl.prod_lt l2 (Fl.small_k hq))
  have HC := Lib.hid (fun w1 a1 c1 a2 c2 (s1 : Sl w1 a1 c1 (Na.limbs (x * t))) (z1 : a1 = none → c1 = 0) (s2 : Sl w1 a2 c2 (Na.limbs (y * q))) (z2 : a2 = none → c2 = 0) => r1_cmp_any a1 c1 (Na.limbs (x * t)) a2 c2 (Na.limbs (y * q)) w1 s1 z1 s2 z2 (by omega) (by omega))
  obtain ⟨z, hz⟩ : ∃ z, z = Na.cmp (Na.limbs (x * t)) (Na.limbs (y * q)) := ⟨_, rfl⟩
  have HZ := Lib.hid (show decide (z < 0) = Fl.nearer r u p q (s, t) by
    rw [hnr, hz, Na.cmp, Na.val_limbs, Na.val_limbs]
    by_cases h : x * t < y * q
    · rw [if_pos h, decide_eq_true h]; rfl
    · rw [if_neg h, decide_eq_false h]; split <;> rfl)
  rw [← hz] at HC
  clear hr hu hxe hye hnr hz m1 m2 l1 l2
  go_enter Tryz.func54, Tryz.ntmps54
  go_wp2_with (first
    | (go_at_call 100; (with_reducible refine (HG1.out _ (Below.refl _ _)).mono ?_); rintro e w1 ⟨a1, c1, rfl, s1, -, -, hb1⟩)
    | (go_at_call 28; (with_reducible refine (HN1.out _).mono ?_); rintro e w2 ⟨a2, c2, rfl, s2, -, -, hb2⟩; have hB2 := hb1.trans (hb2.mono hb1.size); have s1' := s1.on hb2)
    | (go_at_call 52; (with_reducible refine (HT1.out _ _ _ _ _ s1' s2).mono ?_); rintro e w3 ⟨a3, c3, rfl, s3, z3, -, hb3⟩; have hB3 := hB2.trans (hb3.mono hB2.size))
    | (go_at_call 100; (with_reducible refine (HG2.out _ hB3).mono ?_); rintro e w4 ⟨a4, c4, rfl, s4, -, -, hb4⟩; have hB4 := hB3.trans (hb4.mono hB3.size); have s34 := s3.on hb4)
    | (go_at_call 28; (with_reducible refine (HN2.out _).mono ?_); rintro e w5 ⟨a5, c5, rfl, s5, -, -, hb5⟩; have hB5 := hB4.trans (hb5.mono hB4.size); have s45 := s4.on hb5; have s35 := s34.on hb5)
    | (go_at_call 52; (with_reducible refine (HT2.out _ _ _ _ _ s45 s5).mono ?_); rintro e w6 ⟨a6, c6, rfl, s6, z6, -, hb6⟩; have hB6 := hB5.trans (hb6.mono hB5.size); have s36 := s35.on hb6)
    | (go_at_call 97; (with_reducible refine (HC.out _ _ _ _ _ s36 z3 s6 z6).mono ?_); rintro e w7 ⟨rfl, hb7⟩; have hB7 := hB6.trans (hb7.mono hB6.size)))
  refine bodyPost_ret (v := .bool (decide (z < 0))) (by simp [results, Tryz.results54, go_sem]) rfl (RetB.of (by rw [HZ.out]) hB7)
end Go.Proofs.YtlhahbniigjkkaaGreatDoor
