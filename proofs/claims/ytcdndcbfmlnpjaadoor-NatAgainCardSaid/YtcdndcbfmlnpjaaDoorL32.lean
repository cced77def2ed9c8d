/- A shift up is a product with a power of two, a shift down the quotient, and what is lost is what is left. -/
import Derived.Test.YtcdndcbfmlnpjaaDoorL31
namespace Go.Proofs.YtcdndcbfmlnpjaaDoor
set_option linter.all false
open Go.RowKit

abbrev PowsTo (b n : Int) (p : Nat) : Prop := ∀ (w : World), Calls Tryd.prog 16 #[.int .i64 b, .int .i64 n] w (GvL p w)
theorem pows_to {b n : Int} {p : Nat} (h : Na.pow b n = (Na.limbs p, 0)) (hb : -9223372036854775808 ≤ b ∧ b ≤ 9223372036854775807) (hn : -9223372036854775808 ≤ n ∧ n ≤ 9223372036854775807) : PowsTo b n p :=
  fun w => (na_pow_any b n w hb hn).mono fun _ _ hg => hg.gvl h
abbrev ShlsTo (l : List Nat) (n : Int) (x : Nat) : Prop := ∀ (w : World) (a : Option Addr) (c : Nat), Sl w a c l → Calls Tryd.prog 17 #[.slice a l.length c, .int .i64 n] w (GvL x w)
theorem shls_to {l : List Nat} {n : Int} {x : Nat} (h : Na.shl l n = (Na.limbs x, 0)) (hl : l.length ≤ 1000000) (hn : -9223372036854775808 ≤ n ∧ n ≤ 9223372036854775807) : ShlsTo l n x :=
  fun w a c s => (na_shl_any a c l n w s hl hn).mono fun _ _ hg => hg.gvl h
def GvZ (x : Nat) (lo : Bool) (w : World) (e : Ending) (w' : World) : Prop := ∃ a c, e = .returned (.tuple #[.slice a (Na.limbs x).length c, .bool lo, .int .i64 0]) ∧ Sl w' a c (Na.limbs x) ∧ Below w.heap.size w w'
abbrev ShrsTo (l : List Nat) (n : Int) (x : Nat) (lo : Bool) : Prop := ∀ (w : World) (a : Option Addr) (c : Nat), Sl w a c l → Calls Tryd.prog 18 #[.slice a l.length c, .int .i64 n] w (GvZ x lo w)
theorem shrs_to {l : List Nat} {n : Int} {x : Nat} {lo : Bool} (h : Na.shr l n = (Na.limbs x, lo, 0)) (hl : l.length ≤ 1000000) (hn : -9223372036854775808 ≤ n ∧ n ≤ 9223372036854775807) : ShrsTo l n x lo :=
  fun w a c s => (na_shr_any a c l n w s hl hn).mono fun _ _ hg => by
    rw [h] at hg
    obtain ⟨a, c, rfl, hs, _, hb⟩ := hg
    exact ⟨a, c, rfl, hs, hb⟩

set_option maxRecDepth 100000 in
set_option maxHeartbeats 1000000 in
theorem l1_doubles_out (a : Option Addr) (c : Nat) (m : Nat) (n : Int) (w : World) (ht : Tab w) (hm : m ≤ 9223372036854775807) (hn : -9223372036854775808 ≤ n ∧ n ≤ 9223372036854775807) (h : 200 < m ∨ n < 0 ∨ 1700 < n) :
    Calls Tryd.prog 5 #[.slice a m c, .int .i64 n] w (RetB (.bool true) w) := by
  have HS := Lib.hid (l1_shown_any w ht)
  by_cases h1 : 200 < m
  · clear h
    go_enter Tryd.func5, Tryd.ntmps5
    go_wp2_with (go_at_call 7; (with_reducible refine (HS.out).mono ?_); rintro e w1 ⟨rfl, hb_w1⟩; have hB_w1 : Below (w).heap.size (w) w1 := Below.trans (by (repeat (first | exact Below.refl _ _ | assumption | refine Below.setCell ?_ (by first | omega | (simp <;> omega)) _ | refine Below.alloc ?_ (by first | omega | (simp <;> omega)) _ | refine Below.drew ?_ | refine below_drewN' ?_ _))) (hb_w1.mono (by first | omega | (simp <;> omega))); obtain ⟨hc_w1, hf_w1⟩ := bcell hb_w1; have hz_w1 := hb_w1.size; (try simp only [size_drew', size_drewN', World.size_alloc, World.size_setCell] at hz_w1))
    go_ret
    exact RetB.of rfl hB_w1
  · by_cases h2 : n < 0
    · clear h
      go_enter Tryd.func5, Tryd.ntmps5
      go_wp2_with (go_at_call 7; (with_reducible refine (HS.out).mono ?_); rintro e w1 ⟨rfl, hb_w1⟩; have hB_w1 : Below (w).heap.size (w) w1 := Below.trans (by (repeat (first | exact Below.refl _ _ | assumption | refine Below.setCell ?_ (by first | omega | (simp <;> omega)) _ | refine Below.alloc ?_ (by first | omega | (simp <;> omega)) _ | refine Below.drew ?_ | refine below_drewN' ?_ _))) (hb_w1.mono (by first | omega | (simp <;> omega))); obtain ⟨hc_w1, hf_w1⟩ := bcell hb_w1; have hz_w1 := hb_w1.size; (try simp only [size_drew', size_drewN', World.size_alloc, World.size_setCell] at hz_w1))
      go_ret
      exact RetB.of rfl hB_w1
    · have h3 : 1700 < n := by omega
      clear h
      go_enter Tryd.func5, Tryd.ntmps5
      go_wp2_with (go_at_call 7; (with_reducible refine (HS.out).mono ?_); rintro e w1 ⟨rfl, hb_w1⟩; have hB_w1 : Below (w).heap.size (w) w1 := Below.trans (by (repeat (first | exact Below.refl _ _ | assumption | refine Below.setCell ?_ (by first | omega | (simp <;> omega)) _ | refine Below.alloc ?_ (by first | omega | (simp <;> omega)) _ | refine Below.drew ?_ | refine below_drewN' ?_ _))) (hb_w1.mono (by first | omega | (simp <;> omega))); obtain ⟨hc_w1, hf_w1⟩ := bcell hb_w1; have hz_w1 := hb_w1.size; (try simp only [size_drew', size_drewN', World.size_alloc, World.size_setCell] at hz_w1))
      go_ret
      exact RetB.of rfl hB_w1

set_option maxRecDepth 100000 in
set_option maxHeartbeats 8000000 in
theorem l1_doubles_walk (a1 : Option Addr) (c1 : Nat) (L1 : List Nat) (n : Nat) (w : World) (ht : Tab w) (s1 : Sl w a1 c1 L1) (h1 : L1.length ≤ 200) (hn : n ≤ 1700) (p x z r bl bx : Nat) (lo : Bool)
    (hp : PowsTo 2 n p) (hx : ShlsTo L1 n x) (hy : MulsTo L1 (Na.limbs p) x) (hz : ShrsTo L1 n z lo) (hd : DivsTo L1 (Na.limbs p) z r 0) (hl : LenTo L1 bl) (he : SameNum x) (hf : SameNum z) (hm : LenTo (Na.limbs x) bx)
    (hlo : decide (0 < (Na.limbs r).length) = lo) (hb : bl = 0 ∧ bx = 0 ∨ 0 < bl ∧ bx = bl + n) (hbl : bl ≤ 1000000) :
    Calls Tryd.prog 5 #[.slice a1 L1.length c1, .int .i64 n] w (RetB (.bool true) w) := by
  have HS := Lib.hid (l1_shown_any w ht)
  have HP := Lib.hid hp; have HX := Lib.hid hx; have HY := Lib.hid hy; have HZ := Lib.hid hz; have HD := Lib.hid hd; have HE := Lib.hid he; have HF := Lib.hid hf
  clear hp hx hy hz hd he hf
  rcases hb with ⟨rfl, rfl⟩ | ⟨hb, rfl⟩
  · have HL := Lib.hid (show ∀ (w : World) (a : Option Addr) (c : Nat), Sl w a c L1 → Calls Tryd.prog 14 #[.slice a L1.length c] w (RetB (.int .i64 0) w) from hl)
    have HM := Lib.hid (show ∀ (w : World) (a : Option Addr) (c : Nat), Sl w a c (Na.limbs x) → Calls Tryd.prog 14 #[.slice a (Na.limbs x).length c] w (RetB (.int .i64 0) w) from hm)
    clear hl hm
    cases lo
    all_goals (
      go_enter Tryd.func5, Tryd.ntmps5
      go_wp2_with (first
    | (go_at_call 7; (with_reducible refine (HS.out).mono ?_); rintro e w1 ⟨rfl, hb1⟩; have hB1 : Below w.heap.size w w1 := hb1; replace s1 := s1.on hb1)
    | (go_at_call 16; (with_reducible refine (HP.out _).mono ?_); rintro e w2 ⟨ad_p, ca_p, rfl, sp, hb2⟩; have hB2 : Below w.heap.size w w2 := hB1.trans (hb2.mono hB1.size); replace s1 := s1.on hb2)
    | (go_at_call 17; (with_reducible refine (HX.out _ _ _ s1).mono ?_); rintro e w3 ⟨ad_x, ca_x, rfl, sx, hb3⟩; have hB3 : Below w.heap.size w w3 := hB2.trans (hb3.mono hB2.size); replace s1 := s1.on hb3; replace sp := sp.on hb3)
    | (go_at_call 12; (with_reducible refine (HY.out _ _ _ _ _ s1 sp).mono ?_); rintro e w4 ⟨ad_y, ca_y, rfl, sy, hb4⟩; have hB4 : Below w.heap.size w w4 := hB3.trans (hb4.mono hB3.size); replace s1 := s1.on hb4; replace sp := sp.on hb4; replace sx := sx.on hb4)
    | (go_at_call 18; (with_reducible refine (HZ.out _ _ _ s1).mono ?_); rintro e w5 ⟨ad_z, ca_z, rfl, sz, hb5⟩; have hB5 : Below w.heap.size w w5 := hB4.trans (hb5.mono hB4.size); replace s1 := s1.on hb5; replace sp := sp.on hb5; replace sx := sx.on hb5; replace sy := sy.on hb5)
    | (go_at_call 13; (with_reducible refine (HD.out _ _ _ _ _ s1 sp).mono ?_); rintro e w6 ⟨ad_q, ca_q, ad_r, ca_r, rfl, sq, sr, hb6⟩; have hB6 : Below w.heap.size w w6 := hB5.trans (hb6.mono hB5.size); replace s1 := s1.on hb6; replace sp := sp.on hb6; replace sx := sx.on hb6; replace sy := sy.on hb6; replace sz := sz.on hb6)
    | (go_at_call 14; (with_reducible refine (HL.out _ _ _ s1).mono ?_); rintro e w7 ⟨rfl, hb7⟩; have hB7 : Below w.heap.size w w7 := hB6.trans (hb7.mono hB6.size); replace s1 := s1.on hb7; replace sx := sx.on hb7; replace sy := sy.on hb7; replace sz := sz.on hb7; replace sq := sq.on hb7)
    | (go_at_call 10; (with_reducible refine (HE.out _ _ _ _ _ sx sy).mono ?_); rintro e w8 ⟨rfl, hb8⟩; have hB8 : Below w.heap.size w w8 := hB7.trans (hb8.mono hB7.size); replace sx := sx.on hb8; replace sy := sy.on hb8; replace sz := sz.on hb8; replace sq := sq.on hb8)
    | (go_at_call 10; (with_reducible refine (HF.out _ _ _ _ _ sz sq).mono ?_); rintro e w9 ⟨rfl, hb9⟩; have hB9 : Below w.heap.size w w9 := hB8.trans (hb9.mono hB8.size); replace sx := sx.on hb9; replace sz := sz.on hb9; replace sq := sq.on hb9)
    | (go_at_call 14; (with_reducible refine (HM.out _ _ _ sx).mono ?_); rintro e w10 ⟨rfl, hb10⟩; have hB10 : Below w.heap.size w w10 := hB9.trans (hb10.mono hB9.size); replace sx := sx.on hb10))
      go_ret
      exact RetB.of rfl hB10)
  · have HL := Lib.hid hl
    have HM := Lib.hid (show ∀ (w : World) (a : Option Addr) (c : Nat), Sl w a c (Na.limbs x) → Calls Tryd.prog 14 #[.slice a (Na.limbs x).length c] w (RetB (.int .i64 ((bl : Int) + (n : Int))) w) from fun w a c s => by have := hm w a c s; rwa [show ((bl + n : Nat) : Int) = (bl : Int) + (n : Int) by simp] at this)
    clear hl hm
    cases lo
    all_goals (
      go_enter Tryd.func5, Tryd.ntmps5
      go_wp2_with (first
    | (go_at_call 7; (with_reducible refine (HS.out).mono ?_); rintro e w1 ⟨rfl, hb1⟩; have hB1 : Below w.heap.size w w1 := hb1; replace s1 := s1.on hb1)
    | (go_at_call 16; (with_reducible refine (HP.out _).mono ?_); rintro e w2 ⟨ad_p, ca_p, rfl, sp, hb2⟩; have hB2 : Below w.heap.size w w2 := hB1.trans (hb2.mono hB1.size); replace s1 := s1.on hb2)
    | (go_at_call 17; (with_reducible refine (HX.out _ _ _ s1).mono ?_); rintro e w3 ⟨ad_x, ca_x, rfl, sx, hb3⟩; have hB3 : Below w.heap.size w w3 := hB2.trans (hb3.mono hB2.size); replace s1 := s1.on hb3; replace sp := sp.on hb3)
    | (go_at_call 12; (with_reducible refine (HY.out _ _ _ _ _ s1 sp).mono ?_); rintro e w4 ⟨ad_y, ca_y, rfl, sy, hb4⟩; have hB4 : Below w.heap.size w w4 := hB3.trans (hb4.mono hB3.size); replace s1 := s1.on hb4; replace sp := sp.on hb4; replace sx := sx.on hb4)
    | (go_at_call 18; (with_reducible refine (HZ.out _ _ _ s1).mono ?_); rintro e w5 ⟨ad_z, ca_z, rfl, sz, hb5⟩; have hB5 : Below w.heap.size w w5 := hB4.trans (hb5.mono hB4.size); replace s1 := s1.on hb5; replace sp := sp.on hb5; replace sx := sx.on hb5; replace sy := sy.on hb5)
    | (go_at_call 13; (with_reducible refine (HD.out _ _ _ _ _ s1 sp).mono ?_); rintro e w6 ⟨ad_q, ca_q, ad_r, ca_r, rfl, sq, sr, hb6⟩; have hB6 : Below w.heap.size w w6 := hB5.trans (hb6.mono hB5.size); replace s1 := s1.on hb6; replace sp := sp.on hb6; replace sx := sx.on hb6; replace sy := sy.on hb6; replace sz := sz.on hb6)
    | (go_at_call 14; (with_reducible refine (HL.out _ _ _ s1).mono ?_); rintro e w7 ⟨rfl, hb7⟩; have hB7 : Below w.heap.size w w7 := hB6.trans (hb7.mono hB6.size); replace s1 := s1.on hb7; replace sx := sx.on hb7; replace sy := sy.on hb7; replace sz := sz.on hb7; replace sq := sq.on hb7)
    | (go_at_call 10; (with_reducible refine (HE.out _ _ _ _ _ sx sy).mono ?_); rintro e w8 ⟨rfl, hb8⟩; have hB8 : Below w.heap.size w w8 := hB7.trans (hb8.mono hB7.size); replace sx := sx.on hb8; replace sy := sy.on hb8; replace sz := sz.on hb8; replace sq := sq.on hb8)
    | (go_at_call 10; (with_reducible refine (HF.out _ _ _ _ _ sz sq).mono ?_); rintro e w9 ⟨rfl, hb9⟩; have hB9 : Below w.heap.size w w9 := hB8.trans (hb9.mono hB8.size); replace sx := sx.on hb9; replace sz := sz.on hb9; replace sq := sq.on hb9)
    | (go_at_call 14; (with_reducible refine (HM.out _ _ _ sx).mono ?_); rintro e w10 ⟨rfl, hb10⟩; have hB10 : Below w.heap.size w w10 := hB9.trans (hb10.mono hB9.size); replace sx := sx.on hb10))
      go_ret
      exact RetB.of rfl hB10)

theorem Na.bitLen_le {n k : Nat} (h : n < 2 ^ k) : Na.bitLen n ≤ k := by
  by_cases h0 : n = 0
  · subst h0; exact Nat.zero_le _
  · rw [Na.bitLen, if_neg h0]
    exact (Nat.log2_lt h0).2 h
theorem Na.bitLen_shift {a n : Nat} (h : a ≠ 0) : Na.bitLen (a * 2 ^ n) = Na.bitLen a + n := by
  have h2 : a * 2 ^ n ≠ 0 := Nat.ne_of_gt (Nat.mul_pos (by omega) (Nat.pow_pos (by decide)))
  rw [Na.bitLen, Na.bitLen, if_neg h, if_neg h2]
  have := Na.log2_add 0 n a (Nat.pow_pos (by decide)) h
  rw [Nat.zero_add, Nat.mul_comm] at this
  omega
theorem Na.pow2 (k : Nat) : Na.B ^ k = 2 ^ (32 * k) := by rw [Nat.pow_mul]
theorem Na.lt_pow2 {x m k : Nat} (h : x < 2 ^ m) (hm : m ≤ 32 * k) : x < Na.B ^ k := by
  rw [Na.pow2]; exact Nat.lt_of_lt_of_le h (Nat.pow_le_pow_right (by decide) hm)

theorem l1_doubles_any (a1 : Option Addr) (c1 : Nat) (L1 : List Nat) (n : Int) (w : World) (ht : Tab w) (s1 : Sl w a1 c1 L1) (hn1 : L1.length ≤ 9223372036854775807) (hn : -9223372036854775808 ≤ n ∧ n ≤ 9223372036854775807) :
    Calls Tryd.prog 5 #[.slice a1 L1.length c1, .int .i64 n] w (RetB (.bool true) w) := by
  by_cases h : 200 < L1.length ∨ n < 0 ∨ 1700 < n
  · exact l1_doubles_out a1 c1 _ n w ht hn1 hn h
  · obtain ⟨k, rfl⟩ : ∃ k : Nat, n = k := ⟨n.toNat, by omega⟩
    have h1 : L1.length ≤ 200 := by omega
    have hk : k ≤ 1700 := by omega
    obtain ⟨K, hK⟩ : ∃ K : Nat, K = 6400 := ⟨_, rfl⟩
    obtain ⟨J, hJ⟩ : ∃ J : Nat, J = 1701 := ⟨_, rfl⟩
    have q1 : Na.val L1 < 2 ^ K := by
      have := Na.val_lt _ s1.ok
      rw [Na.pow2] at this
      exact Nat.lt_of_lt_of_le this (Nat.pow_le_pow_right (by decide) (by omega))
    have up : ∀ {x m : Nat}, x < 2 ^ m → m ≤ 8192 → x < Na.B ^ 256 := fun h hm => Na.lt_pow2 h hm
    have le : ∀ {n : Nat}, n < Na.B ^ 256 → (Na.limbs n).length ≤ 1000000 := fun h => Na.len_small h (by omega)
    have q2 : 2 ^ k < 2 ^ J := Nat.pow_lt_pow_right (by decide) (by omega)
    have q3 : Na.val L1 * 2 ^ k < 2 ^ (K + J) := by
      have := Nat.mul_lt_mul_of_lt_of_le q1 (Nat.le_of_lt q2) (Nat.pow_pos (by decide))
      rwa [← Nat.pow_add] at this
    have hbig := Na.not_big_lt (up q1 (by omega)) (Nat.le_refl _)
    have hbl : Na.bitLen (Na.val L1) ≤ K := Na.bitLen_le q1
    have hp0 : 0 < 2 ^ k := Nat.pow_pos (by decide)
    refine l1_doubles_walk a1 c1 L1 k w ht s1 h1 hk (2 ^ k) (Na.val L1 * 2 ^ k) (Na.val L1 / 2 ^ k) (Na.val L1 % 2 ^ k) (Na.bitLen (Na.val L1)) (Na.bitLen (Na.val L1 * 2 ^ k)) (decide (Na.val L1 % 2 ^ k ≠ 0))
      (pows_to ?_ (by omega) (by omega)) (shls_to ?_ (by omega) (by omega)) (muls_fit rfl (Na.val_limbs _) (up q1 (by omega)) (up q2 (by omega)) (up q3 (by omega)) (by omega) (le (up q2 (by omega))) rfl) (shrs_to ?_ (by omega) (by omega)) (divs_to ?_ (by omega) (le (up q2 (by omega))))
      (len_to rfl (by omega)) (same_num (le (up q3 (by omega)))) (same_num (le (Nat.lt_of_le_of_lt (Nat.div_le_self _ _) (up q1 (by omega))))) (len_to (by rw [Na.val_limbs]) (le (up q3 (by omega)))) ?_ ?_ (by omega)
    · rw [Na.pow, if_neg (by omega), if_neg (by omega), Int.toNat_natCast]
      exact Na.fits_lt (up q2 (by omega)) (Nat.le_refl _)
    · rw [Na.shl, if_neg (by omega), hbig, if_neg (by decide), Int.toNat_natCast]
      by_cases hz : Na.val L1 = 0
      · rw [if_pos hz, hz, Nat.zero_mul, Na.limbs_zero]
      · rw [if_neg hz, if_neg (by omega)]
    · rw [Na.shr, if_neg (by omega), hbig, if_neg (by decide), Int.toNat_natCast]
    · rw [Na.divMod_ok (up q1 (by omega)) (by rw [Na.val_limbs]; exact up q2 (by omega)), Na.val_limbs, if_neg (by omega)]
    · apply decide_eq_decide.2
      rw [List.length_pos_iff, ne_eq, ne_eq, Na.limbs_nil]
    · by_cases hz : Na.val L1 = 0
      · left; rw [hz, Nat.zero_mul]; exact ⟨rfl, rfl⟩
      · right; exact ⟨Na.bitLen_pos hz, Na.bitLen_shift hz⟩
end Go.Proofs.YtcdndcbfmlnpjaaDoor
