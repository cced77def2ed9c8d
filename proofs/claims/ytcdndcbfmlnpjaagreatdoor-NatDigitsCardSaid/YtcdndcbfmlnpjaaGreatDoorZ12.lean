/- Shifts and powers are as the chapter says. -/
import Derived.Test.YtcdndcbfmlnpjaaGreatDoorZ10
import Derived.Test.YtcdndcbfmlnpjaaGreatDoorZ11
namespace Go.Proofs.YtcdndcbfmlnpjaaGreatDoor
set_option linter.all false
open Go.RowKit

theorem Na.two_lt (n : Nat) : 2 ^ n < Na.B ^ (n + 1) := by
  have h1 : 2 ^ n ≤ Na.B ^ n := Nat.pow_le_pow_left (by decide) n
  have h2 : 0 < Na.B ^ n := Nat.pow_pos (by decide)
  rw [Nat.pow_succ]
  have : Na.B ^ n * 2 ≤ Na.B ^ n * Na.B := Nat.mul_le_mul_left _ (by decide)
  omega
theorem Na.shl_len1 (l : List Nat) (n : Int) (h : Na.OK l) : (Na.shl l n).1.length ≤ 1000000 := by
  rw [Na.shl]; split
  · simp
  · split
    · simp
    · rename_i hb
      split
      · simp
      · split
        · simp
        · rename_i ho
          have h1 := Na.len_prod (Na.val_rt h) (Na.two_lt n.toNat)
          have h2 : Na.rt l ≤ 256 := Nat.le_of_not_lt (of_decide_eq_false (by simpa [Na.big] using hb))
          show (Na.limbs (Na.val l * 2 ^ n.toNat)).length ≤ 1000000
          omega
theorem Na.shr_len1 (l : List Nat) (n : Int) (h : Na.OK l) (hl : l.length ≤ 1000) : (Na.shr l n).1.length ≤ 1000000 := by
  rw [Na.shr]; split
  · simp
  · split
    · simp
    · have h1 := Na.limbs_len_le (Na.val l / 2 ^ n.toNat) l.length (Nat.lt_of_le_of_lt (Nat.div_le_self _ _) (Na.val_lt l h))
      show (Na.limbs (Na.val l / 2 ^ n.toNat)).length ≤ 1000000
      omega
theorem Na.pow_len1 (b n : Int) : (Na.pow b n).1.length ≤ 1000000 := by
  rw [Na.pow]; split
  · simp
  · split
    · simp
    · exact Nat.le_trans (Na.fits_len _) (by decide)
theorem GivesE.f {q : List Nat × Int} {w w' : World} {e : Ending} (h : GivesE q w e w') : GvF q w e w' := by
  obtain ⟨a, c, rfl, hs, _, hb⟩ := h
  exact ⟨a, c, rfl, hs, hb⟩
theorem GivesS.t3 {q : List Nat × Bool × Int} {w w' : World} {e : Ending} (h : GivesS q w e w') : GvT3 q w e w' := by
  obtain ⟨a, c, rfl, hs, _, hb⟩ := h
  exact ⟨a, c, rfl, hs, hb⟩

set_option maxRecDepth 100000 in
set_option maxHeartbeats 1000000 in
theorem l1_shifts_out (a : Option Addr) (c : Nat) (m : Nat) (n b p : Int) (w : World) (ht : Tab w) (hm : m ≤ 9223372036854775807) (h : 300 < m) :
    Calls Tryz.prog 5 #[.slice a m c, .int .i64 n, .int .i64 b, .int .i64 p] w (RetB (.bool true) w) := by
  have HS := Lib.hid (l1_shown_any w ht)
  go_enter Tryz.func5, Tryz.ntmps5
  go_wp2_with (go_at_call 7; (with_reducible refine (HS.out).mono ?_); rintro e w1 ⟨rfl, hb_w1⟩; have hB_w1 : Below (w).heap.size (w) w1 := Below.trans (by (repeat (first | exact Below.refl _ _ | assumption | refine Below.setCell ?_ (by first | omega | (simp <;> omega)) _ | refine Below.alloc ?_ (by first | omega | (simp <;> omega)) _ | refine Below.drew ?_ | refine below_drewN' ?_ _))) (hb_w1.mono (by first | omega | (simp <;> omega))); obtain ⟨hc_w1, hf_w1⟩ := bcell hb_w1; have hz_w1 := hb_w1.size; (try simp only [size_drew', size_drewN', World.size_alloc, World.size_setCell] at hz_w1))
  go_ret
  exact RetB.of rfl hB_w1

set_option maxRecDepth 100000 in
set_option maxHeartbeats 4000000 in
theorem l1_shifts_walk (a1 : Option Addr) (c1 : Nat) (L1 : List Nat) (n b p : Int) (w : World) (ht : Tab w) (s1 : Sl w a1 c1 L1) (z1 : a1 = none → c1 = 0) (h1 : L1.length ≤ 300) (hn : -9223372036854775808 ≤ n ∧ n ≤ 9223372036854775807) (hb : -9223372036854775808 ≤ b ∧ b ≤ 9223372036854775807) (hp : -9223372036854775808 ≤ p ∧ p ≤ 9223372036854775807) :
    Calls Tryz.prog 5 #[.slice a1 L1.length c1, .int .i64 n, .int .i64 b, .int .i64 p] w (RetB (.bool true) w) := by
  have HS := Lib.hid (l1_shown_any w ht)
  have lx := Na.shl_len1 L1 n s1.ok
  have lz := Na.shr_len1 L1 n s1.ok (by omega)
  have lp := Na.pow_len1 b p
  have hx := fun wr (hs : Sl wr a1 c1 L1) => (na_shl_any a1 c1 L1 n wr hs (by omega) hn).mono fun _ _ hg => hg.f
  have hy := fun wr (hs : Sl wr a1 c1 L1) => r1_shl_any a1 c1 L1 n wr hs z1 (by omega) hn
  have hz := fun wr (hs : Sl wr a1 c1 L1) => (na_shr_any a1 c1 L1 n wr hs (by omega) hn).mono fun _ _ hg => hg.t3
  have hw := fun wr (hs : Sl wr a1 c1 L1) => r1_shr_any a1 c1 L1 n wr hs z1 (by omega) hn
  have hpp := fun wr => (na_pow_any b p wr hb hp).mono fun _ _ hg => hg.f
  have hq := fun wr => r1_pow_any b p wr hb hp
  obtain ⟨⟨xl, xe⟩, hxx⟩ : ∃ x, x = Na.shl L1 n := ⟨_, rfl⟩
  obtain ⟨⟨zl, zb, ze⟩, hzz⟩ : ∃ x, x = Na.shr L1 n := ⟨_, rfl⟩
  obtain ⟨⟨pl, pe⟩, hppp⟩ : ∃ x, x = Na.pow b p := ⟨_, rfl⟩
  rw [← hxx] at lx hx hy
  rw [← hzz] at lz hz hw
  rw [← hppp] at lp hpp hq
  have HX := Lib.hid hx; have HY := Lib.hid hy; have HZ := Lib.hid hz; have HW := Lib.hid hw; have HP := Lib.hid hpp; have HQ := Lib.hid hq
  have HS1 := Lib.hid (fun w a c b d => same_self (l := xl) lx w a c b d)
  have HS2 := Lib.hid (fun w a c b d => same_self (l := zl) lz w a c b d)
  have HS3 := Lib.hid (fun w a c b d => same_self (l := pl) lp w a c b d)
  clear hx hy hz hw hpp hq hxx hzz hppp lx lz lp
  go_enter Tryz.func5, Tryz.ntmps5
  go_wp2_with (first
    | (go_at_call 7; (with_reducible refine (HS.out).mono ?_); rintro e w1 ⟨rfl, hb1⟩; have hB1 : Below w.heap.size w w1 := hb1; replace s1 := s1.on hb1)
    | (go_at_call 27; (with_reducible refine (HX.out _ s1).mono ?_); rintro e w2 ⟨ad_x, ca_x, rfl, sx, hb2⟩; have hB2 : Below w.heap.size w w2 := hB1.trans (hb2.mono hB1.size); replace s1 := s1.on hb2)
    | (go_at_call 28; (with_reducible refine (HY.out _ s1).mono ?_); rintro e w3 ⟨ad_y, ca_y, rfl, sy, hb3⟩; have hB3 : Below w.heap.size w w3 := hB2.trans (hb3.mono hB2.size); replace s1 := s1.on hb3; replace sx := sx.on hb3)
    | (go_at_call 29; (with_reducible refine (HZ.out _ s1).mono ?_); rintro e w4 ⟨ad_z, ca_z, rfl, sz, hb4⟩; have hB4 : Below w.heap.size w w4 := hB3.trans (hb4.mono hB3.size); replace s1 := s1.on hb4; replace sx := sx.on hb4; replace sy := sy.on hb4)
    | (go_at_call 30; (with_reducible refine (HW.out _ s1).mono ?_); rintro e w5 ⟨ad_w, ca_w, rfl, sw, hb5⟩; have hB5 : Below w.heap.size w w5 := hB4.trans (hb5.mono hB4.size); replace s1 := s1.on hb5; replace sx := sx.on hb5; replace sy := sy.on hb5; replace sz := sz.on hb5)
    | (go_at_call 31; (with_reducible refine (HP.out _).mono ?_); rintro e w6 ⟨ad_p, ca_p, rfl, sp, hb6⟩; have hB6 : Below w.heap.size w w6 := hB5.trans (hb6.mono hB5.size); replace s1 := s1.on hb6; replace sx := sx.on hb6; replace sy := sy.on hb6; replace sz := sz.on hb6; replace sw := sw.on hb6)
    | (go_at_call 32; (with_reducible refine (HQ.out _).mono ?_); rintro e w7 ⟨ad_q, ca_q, rfl, sq, hb7⟩; have hB7 : Below w.heap.size w w7 := hB6.trans (hb7.mono hB6.size); replace s1 := s1.on hb7; replace sx := sx.on hb7; replace sy := sy.on hb7; replace sz := sz.on hb7; replace sw := sw.on hb7; replace sp := sp.on hb7)
    | (go_at_call 8; (with_reducible refine (HS1.out _ _ _ _ _ sx sy).mono ?_); rintro e w8 ⟨rfl, hb8⟩; have hB8 : Below w.heap.size w w8 := hB7.trans (hb8.mono hB7.size); replace s1 := s1.on hb8; replace sx := sx.on hb8; replace sy := sy.on hb8; replace sz := sz.on hb8; replace sw := sw.on hb8; replace sp := sp.on hb8; replace sq := sq.on hb8)
    | (go_at_call 8; (with_reducible refine (HS2.out _ _ _ _ _ sz sw).mono ?_); rintro e w9 ⟨rfl, hb9⟩; have hB9 : Below w.heap.size w w9 := hB8.trans (hb9.mono hB8.size); replace s1 := s1.on hb9; replace sz := sz.on hb9; replace sw := sw.on hb9; replace sp := sp.on hb9; replace sq := sq.on hb9)
    | (go_at_call 8; (with_reducible refine (HS3.out _ _ _ _ _ sp sq).mono ?_); rintro e w10 ⟨rfl, hb10⟩; have hB10 : Below w.heap.size w w10 := hB9.trans (hb10.mono hB9.size); replace s1 := s1.on hb10; replace sp := sp.on hb10; replace sq := sq.on hb10))
  go_ret
  exact RetB.of rfl hB10

theorem l1_shifts_any (a1 : Option Addr) (c1 : Nat) (L1 : List Nat) (n b p : Int) (w : World) (ht : Tab w) (s1 : Sl w a1 c1 L1) (z1 : a1 = none → c1 = 0) (hn1 : L1.length ≤ 9223372036854775807) (hn : -9223372036854775808 ≤ n ∧ n ≤ 9223372036854775807) (hb : -9223372036854775808 ≤ b ∧ b ≤ 9223372036854775807) (hp : -9223372036854775808 ≤ p ∧ p ≤ 9223372036854775807) :
    Calls Tryz.prog 5 #[.slice a1 L1.length c1, .int .i64 n, .int .i64 b, .int .i64 p] w (RetB (.bool true) w) := by
  by_cases h : 300 < L1.length
  · exact l1_shifts_out a1 c1 _ n b p w ht hn1 h
  · exact l1_shifts_walk a1 c1 L1 n b p w ht s1 z1 (by omega) hn hb hp
end Go.Proofs.YtcdndcbfmlnpjaaGreatDoor
