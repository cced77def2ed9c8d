/- Sums, differences, products, quotients are as the chapter says. -/
import Derived.Test.YtcdndcbfmlnpjaaGreatDoorZ11
import Derived.Test.YtcdndcbfmlnpjaaGreatDoorZ13
import Derived.Test.YtcdndcbfmlnpjaaGreatDoorZ1
namespace Go.Proofs.YtcdndcbfmlnpjaaGreatDoor
set_option linter.all false
open Go.RowKit

theorem GivesQ.q2 {q : List Nat × List Nat × Int} {w w' : World} {e : Ending} (h : GivesQ q w e w') : GvQ2 q w e w' := by
  obtain ⟨a, c, a', c', rfl, hs, _, hs', _, hb⟩ := h
  exact ⟨a, c, a', c', rfl, hs, hs', hb⟩
theorem Na.fits_len2 (n : Nat) : (Na.fits n).1.length ≤ 1000000 := Nat.le_trans (Na.fits_len n) (by decide)
theorem Na.add_len1 (l m : List Nat) : (Na.add l m).1.length ≤ 1000000 := by
  rw [Na.add]; split
  · simp
  · exact Na.fits_len2 _
theorem Na.mul_len1 (l m : List Nat) : (Na.mul l m).1.length ≤ 1000000 := by
  rw [Na.mul]; split
  · simp
  · exact Na.fits_len2 _
theorem Na.sub_len1 (l m : List Nat) (h : Na.OK l) (hl : l.length ≤ 300) : (Na.sub l m).1.length ≤ 1000000 := by
  rw [Na.sub]; split
  · simp
  · split
    · simp
    · have h1 := Na.limbs_len_le (Na.val l - Na.val m) l.length (Nat.lt_of_le_of_lt (Nat.sub_le _ _) (Na.val_lt l h))
      show (Na.limbs (Na.val l - Na.val m)).length ≤ 1000000
      omega
theorem Na.div_len1 (l m : List Nat) (h : Na.OK l) (hl : l.length ≤ 300) : (Na.divMod l m).1.length ≤ 1000000 ∧ (Na.divMod l m).2.1.length ≤ 1000000 := by
  rw [Na.divMod]; split
  · simp
  · split
    · simp
    · have h1 := Na.limbs_len_le (Na.val l / Na.val m) l.length (Nat.lt_of_le_of_lt (Nat.div_le_self _ _) (Na.val_lt l h))
      have h2 := Na.limbs_len_le (Na.val l % Na.val m) l.length (Nat.lt_of_le_of_lt (Nat.mod_le _ _) (Na.val_lt l h))
      show (Na.limbs (Na.val l / Na.val m)).length ≤ 1000000 ∧ (Na.limbs (Na.val l % Na.val m)).length ≤ 1000000
      omega

set_option maxRecDepth 100000 in
set_option maxHeartbeats 1000000 in
theorem l1_sums_out (a : Option Addr) (c : Nat) (m : Nat) (a2 : Option Addr) (c2 : Nat) (m2 : Nat) (w : World) (ht : Tab w) (hm : m ≤ 9223372036854775807) (hm2 : m2 ≤ 9223372036854775807) (h : 300 < m ∨ 300 < m2) :
    Calls Tryz.prog 4 #[.slice a m c, .slice a2 m2 c2] w (RetB (.bool true) w) := by
  have HS := Lib.hid (l1_shown_any w ht)
  by_cases h1 : 300 < m
  · clear h
    go_enter Tryz.func4, Tryz.ntmps4
    go_wp2_with (go_at_call 7; (with_reducible refine (HS.out).mono ?_); rintro e w1 ⟨rfl, hb_w1⟩; have hB_w1 : Below (w).heap.size (w) w1 := Below.trans (by (repeat (first | exact Below.refl _ _ | assumption | refine Below.setCell ?_ (by first | omega | (simp <;> omega)) _ | refine Below.alloc ?_ (by first | omega | (simp <;> omega)) _ | refine Below.drew ?_ | refine below_drewN' ?_ _))) (hb_w1.mono (by first | omega | (simp <;> omega))); obtain ⟨hc_w1, hf_w1⟩ := bcell hb_w1; have hz_w1 := hb_w1.size; (try simp only [size_drew', size_drewN', World.size_alloc, World.size_setCell] at hz_w1))
    go_ret
    exact RetB.of rfl hB_w1
  · have h2 : 300 < m2 := by omega
    clear h
    go_enter Tryz.func4, Tryz.ntmps4
    go_wp2_with (go_at_call 7; (with_reducible refine (HS.out).mono ?_); rintro e w1 ⟨rfl, hb_w1⟩; have hB_w1 : Below (w).heap.size (w) w1 := Below.trans (by (repeat (first | exact Below.refl _ _ | assumption | refine Below.setCell ?_ (by first | omega | (simp <;> omega)) _ | refine Below.alloc ?_ (by first | omega | (simp <;> omega)) _ | refine Below.drew ?_ | refine below_drewN' ?_ _))) (hb_w1.mono (by first | omega | (simp <;> omega))); obtain ⟨hc_w1, hf_w1⟩ := bcell hb_w1; have hz_w1 := hb_w1.size; (try simp only [size_drew', size_drewN', World.size_alloc, World.size_setCell] at hz_w1))
    go_ret
    exact RetB.of rfl hB_w1

set_option maxRecDepth 100000 in
set_option maxHeartbeats 8000000 in
theorem l1_sums_walk (a1 : Option Addr) (c1 : Nat) (L1 : List Nat) (a2 : Option Addr) (c2 : Nat) (L2 : List Nat) (w : World) (ht : Tab w) (s1 : Sl w a1 c1 L1) (z1 : a1 = none → c1 = 0) (s2 : Sl w a2 c2 L2) (z2 : a2 = none → c2 = 0) (h1 : L1.length ≤ 300) (h2 : L2.length ≤ 300) :
    Calls Tryz.prog 4 #[.slice a1 L1.length c1, .slice a2 L2.length c2] w (RetB (.bool true) w) := by
  have HS := Lib.hid (l1_shown_any w ht)
  have lx := Na.add_len1 L1 L2
  have lz := Na.sub_len1 L1 L2 s1.ok h1
  have lp := Na.mul_len1 L1 L2
  have ld := Na.div_len1 L1 L2 s1.ok h1
  have hx := fun wr (hs : Sl wr a1 c1 L1) (hs' : Sl wr a2 c2 L2) => (na_add_any a1 c1 L1 a2 c2 L2 wr hs hs' (by omega) (by omega)).mono fun _ _ hg => hg.f
  have hy := fun wr (hs : Sl wr a1 c1 L1) (hs' : Sl wr a2 c2 L2) => r1_add_any a1 c1 L1 a2 c2 L2 wr hs z1 hs' z2 (by omega) (by omega)
  have hz := fun wr (hs : Sl wr a1 c1 L1) (hs' : Sl wr a2 c2 L2) => (na_sub_any a1 c1 L1 a2 c2 L2 wr hs hs' (by omega) (by omega)).mono fun _ _ hg => hg.f
  have hw := fun wr (hs : Sl wr a1 c1 L1) (hs' : Sl wr a2 c2 L2) => r1_sub_any a1 c1 L1 a2 c2 L2 wr hs z1 hs' z2 (by omega) (by omega)
  have hp := fun wr (hs : Sl wr a1 c1 L1) (hs' : Sl wr a2 c2 L2) => (na_mul_any a1 c1 L1 a2 c2 L2 wr hs hs' (by omega) (by omega)).mono fun _ _ hg => hg.f
  have hq := fun wr (hs : Sl wr a1 c1 L1) (hs' : Sl wr a2 c2 L2) => r1_mul_any a1 c1 L1 a2 c2 L2 wr hs z1 hs' z2 (by omega) (by omega)
  have hd := fun wr (hs : Sl wr a1 c1 L1) (hs' : Sl wr a2 c2 L2) => (na_divmod_any a1 c1 L1 a2 c2 L2 wr hs hs' (by omega) (by omega)).mono fun _ _ hg => hg.q2
  have he := fun wr (hs : Sl wr a1 c1 L1) (hs' : Sl wr a2 c2 L2) => r1_divmod_any a1 c1 L1 a2 c2 L2 wr hs z1 hs' z2 (by omega) (by omega)
  obtain ⟨⟨xl, xe⟩, hxx⟩ : ∃ x, x = Na.add L1 L2 := ⟨_, rfl⟩
  obtain ⟨⟨zl, ze⟩, hzz⟩ : ∃ x, x = Na.sub L1 L2 := ⟨_, rfl⟩
  obtain ⟨⟨pl, pe⟩, hpp⟩ : ∃ x, x = Na.mul L1 L2 := ⟨_, rfl⟩
  obtain ⟨⟨dl, rl, de⟩, hdd⟩ : ∃ x, x = Na.divMod L1 L2 := ⟨_, rfl⟩
  rw [← hxx] at lx hx hy
  rw [← hzz] at lz hz hw
  rw [← hpp] at lp hp hq
  rw [← hdd] at ld hd he
  have HX := Lib.hid hx; have HY := Lib.hid hy; have HZ := Lib.hid hz; have HW := Lib.hid hw; have HP := Lib.hid hp; have HQ := Lib.hid hq; have HD := Lib.hid hd; have HE := Lib.hid he
  have HS1 := Lib.hid (fun w a c b d => same_self (l := xl) lx w a c b d)
  have HS2 := Lib.hid (fun w a c b d => same_self (l := zl) lz w a c b d)
  have HS3 := Lib.hid (fun w a c b d => same_self (l := pl) lp w a c b d)
  have HS4 := Lib.hid (fun w a c b d => same_self (l := dl) ld.1 w a c b d)
  have HS5 := Lib.hid (fun w a c b d => same_self (l := rl) ld.2 w a c b d)
  clear hx hy hz hw hp hq hd he hxx hzz hpp hdd lx lz lp ld
  by_cases hA : 40 < L1.length
  · by_cases hC : 40 < L2.length
    · by_cases hI : pe = 0
      · subst hI
        go_enter Tryz.func4, Tryz.ntmps4
        go_wp2_with (first
        | (go_at_call 7; (with_reducible refine (HS.out).mono ?_); rintro e w1 ⟨rfl, hb1⟩; have hB1 : Below w.heap.size w w1 := hb1; replace s1 := s1.on hb1; replace s2 := s2.on hb1)
        | (go_at_call 19; (with_reducible refine (HX.out _ s1 s2).mono ?_); rintro e w2 ⟨ad_x, ca_x, rfl, sx, hb2⟩; have hB2 : Below w.heap.size w w2 := hB1.trans (hb2.mono hB1.size); replace s1 := s1.on hb2; replace s2 := s2.on hb2)
        | (go_at_call 20; (with_reducible refine (HY.out _ s1 s2).mono ?_); rintro e w3 ⟨ad_y, ca_y, rfl, sy, hb3⟩; have hB3 : Below w.heap.size w w3 := hB2.trans (hb3.mono hB2.size); replace s1 := s1.on hb3; replace s2 := s2.on hb3; replace sx := sx.on hb3)
        | (go_at_call 8; (with_reducible refine (HS1.out _ _ _ _ _ sx sy).mono ?_); rintro e w4 ⟨rfl, hb4⟩; have hB4 : Below w.heap.size w w4 := hB3.trans (hb4.mono hB3.size); replace s1 := s1.on hb4; replace s2 := s2.on hb4; replace sx := sx.on hb4; replace sy := sy.on hb4)
        | (go_at_call 21; (with_reducible refine (HZ.out _ s1 s2).mono ?_); rintro e w5 ⟨ad_z, ca_z, rfl, sz, hb5⟩; have hB5 : Below w.heap.size w w5 := hB4.trans (hb5.mono hB4.size); replace s1 := s1.on hb5; replace s2 := s2.on hb5)
        | (go_at_call 22; (with_reducible refine (HW.out _ s1 s2).mono ?_); rintro e w6 ⟨ad_w, ca_w, rfl, sw, hb6⟩; have hB6 : Below w.heap.size w w6 := hB5.trans (hb6.mono hB5.size); replace s1 := s1.on hb6; replace s2 := s2.on hb6; replace sz := sz.on hb6)
        | (go_at_call 8; (with_reducible refine (HS2.out _ _ _ _ _ sz sw).mono ?_); rintro e w7 ⟨rfl, hb7⟩; have hB7 : Below w.heap.size w w7 := hB6.trans (hb7.mono hB6.size); replace s1 := s1.on hb7; replace s2 := s2.on hb7; replace sz := sz.on hb7; replace sw := sw.on hb7)
        | (go_at_call 23; (with_reducible refine (HP.out _ s1 s2).mono ?_); rintro e w8 ⟨ad_p, ca_p, rfl, sp, hb8⟩; have hB8 : Below w.heap.size w w8 := hB7.trans (hb8.mono hB7.size); replace s1 := s1.on hb8; replace s2 := s2.on hb8)
        | (go_at_call 24; (with_reducible refine (HQ.out _ s1 s2).mono ?_); rintro e w9 ⟨ad_q, ca_q, rfl, sq, hb9⟩; have hB9 : Below w.heap.size w w9 := hB8.trans (hb9.mono hB8.size); replace s1 := s1.on hb9; replace s2 := s2.on hb9; replace sp := sp.on hb9)
        | (go_at_call 8; (with_reducible refine (HS3.out _ _ _ _ _ sp sq).mono ?_); rintro e w10 ⟨rfl, hb10⟩; have hB10 : Below w.heap.size w w10 := hB9.trans (hb10.mono hB9.size); replace s1 := s1.on hb10; replace s2 := s2.on hb10; replace sp := sp.on hb10; replace sq := sq.on hb10))
        go_ret
        exact RetB.of rfl hB10
      · go_enter Tryz.func4, Tryz.ntmps4
        go_wp2_with (first
        | (go_at_call 7; (with_reducible refine (HS.out).mono ?_); rintro e w1 ⟨rfl, hb1⟩; have hB1 : Below w.heap.size w w1 := hb1; replace s1 := s1.on hb1; replace s2 := s2.on hb1)
        | (go_at_call 19; (with_reducible refine (HX.out _ s1 s2).mono ?_); rintro e w2 ⟨ad_x, ca_x, rfl, sx, hb2⟩; have hB2 : Below w.heap.size w w2 := hB1.trans (hb2.mono hB1.size); replace s1 := s1.on hb2; replace s2 := s2.on hb2)
        | (go_at_call 20; (with_reducible refine (HY.out _ s1 s2).mono ?_); rintro e w3 ⟨ad_y, ca_y, rfl, sy, hb3⟩; have hB3 : Below w.heap.size w w3 := hB2.trans (hb3.mono hB2.size); replace s1 := s1.on hb3; replace s2 := s2.on hb3; replace sx := sx.on hb3)
        | (go_at_call 8; (with_reducible refine (HS1.out _ _ _ _ _ sx sy).mono ?_); rintro e w4 ⟨rfl, hb4⟩; have hB4 : Below w.heap.size w w4 := hB3.trans (hb4.mono hB3.size); replace s1 := s1.on hb4; replace s2 := s2.on hb4; replace sx := sx.on hb4; replace sy := sy.on hb4)
        | (go_at_call 21; (with_reducible refine (HZ.out _ s1 s2).mono ?_); rintro e w5 ⟨ad_z, ca_z, rfl, sz, hb5⟩; have hB5 : Below w.heap.size w w5 := hB4.trans (hb5.mono hB4.size); replace s1 := s1.on hb5; replace s2 := s2.on hb5)
        | (go_at_call 22; (with_reducible refine (HW.out _ s1 s2).mono ?_); rintro e w6 ⟨ad_w, ca_w, rfl, sw, hb6⟩; have hB6 : Below w.heap.size w w6 := hB5.trans (hb6.mono hB5.size); replace s1 := s1.on hb6; replace s2 := s2.on hb6; replace sz := sz.on hb6)
        | (go_at_call 8; (with_reducible refine (HS2.out _ _ _ _ _ sz sw).mono ?_); rintro e w7 ⟨rfl, hb7⟩; have hB7 : Below w.heap.size w w7 := hB6.trans (hb7.mono hB6.size); replace s1 := s1.on hb7; replace s2 := s2.on hb7; replace sz := sz.on hb7; replace sw := sw.on hb7)
        | (go_at_call 23; (with_reducible refine (HP.out _ s1 s2).mono ?_); rintro e w8 ⟨ad_p, ca_p, rfl, sp, hb8⟩; have hB8 : Below w.heap.size w w8 := hB7.trans (hb8.mono hB7.size); replace s1 := s1.on hb8; replace s2 := s2.on hb8)
        | (go_at_call 24; (with_reducible refine (HQ.out _ s1 s2).mono ?_); rintro e w9 ⟨ad_q, ca_q, rfl, sq, hb9⟩; have hB9 : Below w.heap.size w w9 := hB8.trans (hb9.mono hB8.size); replace s1 := s1.on hb9; replace s2 := s2.on hb9; replace sp := sp.on hb9)
        | (go_at_call 8; (with_reducible refine (HS3.out _ _ _ _ _ sp sq).mono ?_); rintro e w10 ⟨rfl, hb10⟩; have hB10 : Below w.heap.size w w10 := hB9.trans (hb10.mono hB9.size); replace s1 := s1.on hb10; replace s2 := s2.on hb10; replace sp := sp.on hb10; replace sq := sq.on hb10)
        | (go_at_call 25; (with_reducible refine (HD.out _ s1 s2).mono ?_); rintro e w11 ⟨ad_s, ca_s, ad_t, ca_t, rfl, ss, st, hb11⟩; have hB11 : Below w.heap.size w w11 := hB10.trans (hb11.mono hB10.size); replace s1 := s1.on hb11; replace s2 := s2.on hb11)
        | (go_at_call 26; (with_reducible refine (HE.out _ s1 s2).mono ?_); rintro e w12 ⟨ad_u, ca_u, ad_v, ca_v, rfl, su, sv, hb12⟩; have hB12 : Below w.heap.size w w12 := hB11.trans (hb12.mono hB11.size); replace s1 := s1.on hb12; replace s2 := s2.on hb12; replace ss := ss.on hb12; replace st := st.on hb12)
        | (go_at_call 8; (with_reducible refine (HS4.out _ _ _ _ _ ss su).mono ?_); rintro e w13 ⟨rfl, hb13⟩; have hB13 : Below w.heap.size w w13 := hB12.trans (hb13.mono hB12.size); replace s1 := s1.on hb13; replace s2 := s2.on hb13; replace ss := ss.on hb13; replace st := st.on hb13; replace su := su.on hb13; replace sv := sv.on hb13)
        | (go_at_call 8; (with_reducible refine (HS5.out _ _ _ _ _ st sv).mono ?_); rintro e w14 ⟨rfl, hb14⟩; have hB14 : Below w.heap.size w w14 := hB13.trans (hb14.mono hB13.size); replace s1 := s1.on hb14; replace s2 := s2.on hb14; replace st := st.on hb14; replace sv := sv.on hb14))
        go_ret
        exact RetB.of rfl hB14
    · go_enter Tryz.func4, Tryz.ntmps4
      go_wp2_with (first
      | (go_at_call 7; (with_reducible refine (HS.out).mono ?_); rintro e w1 ⟨rfl, hb1⟩; have hB1 : Below w.heap.size w w1 := hb1; replace s1 := s1.on hb1; replace s2 := s2.on hb1)
      | (go_at_call 19; (with_reducible refine (HX.out _ s1 s2).mono ?_); rintro e w2 ⟨ad_x, ca_x, rfl, sx, hb2⟩; have hB2 : Below w.heap.size w w2 := hB1.trans (hb2.mono hB1.size); replace s1 := s1.on hb2; replace s2 := s2.on hb2)
      | (go_at_call 20; (with_reducible refine (HY.out _ s1 s2).mono ?_); rintro e w3 ⟨ad_y, ca_y, rfl, sy, hb3⟩; have hB3 : Below w.heap.size w w3 := hB2.trans (hb3.mono hB2.size); replace s1 := s1.on hb3; replace s2 := s2.on hb3; replace sx := sx.on hb3)
      | (go_at_call 8; (with_reducible refine (HS1.out _ _ _ _ _ sx sy).mono ?_); rintro e w4 ⟨rfl, hb4⟩; have hB4 : Below w.heap.size w w4 := hB3.trans (hb4.mono hB3.size); replace s1 := s1.on hb4; replace s2 := s2.on hb4; replace sx := sx.on hb4; replace sy := sy.on hb4)
      | (go_at_call 21; (with_reducible refine (HZ.out _ s1 s2).mono ?_); rintro e w5 ⟨ad_z, ca_z, rfl, sz, hb5⟩; have hB5 : Below w.heap.size w w5 := hB4.trans (hb5.mono hB4.size); replace s1 := s1.on hb5; replace s2 := s2.on hb5)
      | (go_at_call 22; (with_reducible refine (HW.out _ s1 s2).mono ?_); rintro e w6 ⟨ad_w, ca_w, rfl, sw, hb6⟩; have hB6 : Below w.heap.size w w6 := hB5.trans (hb6.mono hB5.size); replace s1 := s1.on hb6; replace s2 := s2.on hb6; replace sz := sz.on hb6)
      | (go_at_call 8; (with_reducible refine (HS2.out _ _ _ _ _ sz sw).mono ?_); rintro e w7 ⟨rfl, hb7⟩; have hB7 : Below w.heap.size w w7 := hB6.trans (hb7.mono hB6.size); replace s1 := s1.on hb7; replace s2 := s2.on hb7; replace sz := sz.on hb7; replace sw := sw.on hb7)
      | (go_at_call 23; (with_reducible refine (HP.out _ s1 s2).mono ?_); rintro e w8 ⟨ad_p, ca_p, rfl, sp, hb8⟩; have hB8 : Below w.heap.size w w8 := hB7.trans (hb8.mono hB7.size); replace s1 := s1.on hb8; replace s2 := s2.on hb8)
      | (go_at_call 24; (with_reducible refine (HQ.out _ s1 s2).mono ?_); rintro e w9 ⟨ad_q, ca_q, rfl, sq, hb9⟩; have hB9 : Below w.heap.size w w9 := hB8.trans (hb9.mono hB8.size); replace s1 := s1.on hb9; replace s2 := s2.on hb9; replace sp := sp.on hb9)
      | (go_at_call 8; (with_reducible refine (HS3.out _ _ _ _ _ sp sq).mono ?_); rintro e w10 ⟨rfl, hb10⟩; have hB10 : Below w.heap.size w w10 := hB9.trans (hb10.mono hB9.size); replace s1 := s1.on hb10; replace s2 := s2.on hb10; replace sp := sp.on hb10; replace sq := sq.on hb10)
      | (go_at_call 25; (with_reducible refine (HD.out _ s1 s2).mono ?_); rintro e w11 ⟨ad_s, ca_s, ad_t, ca_t, rfl, ss, st, hb11⟩; have hB11 : Below w.heap.size w w11 := hB10.trans (hb11.mono hB10.size); replace s1 := s1.on hb11; replace s2 := s2.on hb11)
      | (go_at_call 26; (with_reducible refine (HE.out _ s1 s2).mono ?_); rintro e w12 ⟨ad_u, ca_u, ad_v, ca_v, rfl, su, sv, hb12⟩; have hB12 : Below w.heap.size w w12 := hB11.trans (hb12.mono hB11.size); replace s1 := s1.on hb12; replace s2 := s2.on hb12; replace ss := ss.on hb12; replace st := st.on hb12)
      | (go_at_call 8; (with_reducible refine (HS4.out _ _ _ _ _ ss su).mono ?_); rintro e w13 ⟨rfl, hb13⟩; have hB13 : Below w.heap.size w w13 := hB12.trans (hb13.mono hB12.size); replace s1 := s1.on hb13; replace s2 := s2.on hb13; replace ss := ss.on hb13; replace st := st.on hb13; replace su := su.on hb13; replace sv := sv.on hb13)
      | (go_at_call 8; (with_reducible refine (HS5.out _ _ _ _ _ st sv).mono ?_); rintro e w14 ⟨rfl, hb14⟩; have hB14 : Below w.heap.size w w14 := hB13.trans (hb14.mono hB13.size); replace s1 := s1.on hb14; replace s2 := s2.on hb14; replace st := st.on hb14; replace sv := sv.on hb14))
      go_ret
      exact RetB.of rfl hB14
  · go_enter Tryz.func4, Tryz.ntmps4
    go_wp2_with (first
    | (go_at_call 7; (with_reducible refine (HS.out).mono ?_); rintro e w1 ⟨rfl, hb1⟩; have hB1 : Below w.heap.size w w1 := hb1; replace s1 := s1.on hb1; replace s2 := s2.on hb1)
    | (go_at_call 19; (with_reducible refine (HX.out _ s1 s2).mono ?_); rintro e w2 ⟨ad_x, ca_x, rfl, sx, hb2⟩; have hB2 : Below w.heap.size w w2 := hB1.trans (hb2.mono hB1.size); replace s1 := s1.on hb2; replace s2 := s2.on hb2)
    | (go_at_call 20; (with_reducible refine (HY.out _ s1 s2).mono ?_); rintro e w3 ⟨ad_y, ca_y, rfl, sy, hb3⟩; have hB3 : Below w.heap.size w w3 := hB2.trans (hb3.mono hB2.size); replace s1 := s1.on hb3; replace s2 := s2.on hb3; replace sx := sx.on hb3)
    | (go_at_call 8; (with_reducible refine (HS1.out _ _ _ _ _ sx sy).mono ?_); rintro e w4 ⟨rfl, hb4⟩; have hB4 : Below w.heap.size w w4 := hB3.trans (hb4.mono hB3.size); replace s1 := s1.on hb4; replace s2 := s2.on hb4; replace sx := sx.on hb4; replace sy := sy.on hb4)
    | (go_at_call 21; (with_reducible refine (HZ.out _ s1 s2).mono ?_); rintro e w5 ⟨ad_z, ca_z, rfl, sz, hb5⟩; have hB5 : Below w.heap.size w w5 := hB4.trans (hb5.mono hB4.size); replace s1 := s1.on hb5; replace s2 := s2.on hb5)
    | (go_at_call 22; (with_reducible refine (HW.out _ s1 s2).mono ?_); rintro e w6 ⟨ad_w, ca_w, rfl, sw, hb6⟩; have hB6 : Below w.heap.size w w6 := hB5.trans (hb6.mono hB5.size); replace s1 := s1.on hb6; replace s2 := s2.on hb6; replace sz := sz.on hb6)
    | (go_at_call 8; (with_reducible refine (HS2.out _ _ _ _ _ sz sw).mono ?_); rintro e w7 ⟨rfl, hb7⟩; have hB7 : Below w.heap.size w w7 := hB6.trans (hb7.mono hB6.size); replace s1 := s1.on hb7; replace s2 := s2.on hb7; replace sz := sz.on hb7; replace sw := sw.on hb7)
    | (go_at_call 23; (with_reducible refine (HP.out _ s1 s2).mono ?_); rintro e w8 ⟨ad_p, ca_p, rfl, sp, hb8⟩; have hB8 : Below w.heap.size w w8 := hB7.trans (hb8.mono hB7.size); replace s1 := s1.on hb8; replace s2 := s2.on hb8)
    | (go_at_call 24; (with_reducible refine (HQ.out _ s1 s2).mono ?_); rintro e w9 ⟨ad_q, ca_q, rfl, sq, hb9⟩; have hB9 : Below w.heap.size w w9 := hB8.trans (hb9.mono hB8.size); replace s1 := s1.on hb9; replace s2 := s2.on hb9; replace sp := sp.on hb9)
    | (go_at_call 8; (with_reducible refine (HS3.out _ _ _ _ _ sp sq).mono ?_); rintro e w10 ⟨rfl, hb10⟩; have hB10 : Below w.heap.size w w10 := hB9.trans (hb10.mono hB9.size); replace s1 := s1.on hb10; replace s2 := s2.on hb10; replace sp := sp.on hb10; replace sq := sq.on hb10)
    | (go_at_call 25; (with_reducible refine (HD.out _ s1 s2).mono ?_); rintro e w11 ⟨ad_s, ca_s, ad_t, ca_t, rfl, ss, st, hb11⟩; have hB11 : Below w.heap.size w w11 := hB10.trans (hb11.mono hB10.size); replace s1 := s1.on hb11; replace s2 := s2.on hb11)
    | (go_at_call 26; (with_reducible refine (HE.out _ s1 s2).mono ?_); rintro e w12 ⟨ad_u, ca_u, ad_v, ca_v, rfl, su, sv, hb12⟩; have hB12 : Below w.heap.size w w12 := hB11.trans (hb12.mono hB11.size); replace s1 := s1.on hb12; replace s2 := s2.on hb12; replace ss := ss.on hb12; replace st := st.on hb12)
    | (go_at_call 8; (with_reducible refine (HS4.out _ _ _ _ _ ss su).mono ?_); rintro e w13 ⟨rfl, hb13⟩; have hB13 : Below w.heap.size w w13 := hB12.trans (hb13.mono hB12.size); replace s1 := s1.on hb13; replace s2 := s2.on hb13; replace ss := ss.on hb13; replace st := st.on hb13; replace su := su.on hb13; replace sv := sv.on hb13)
    | (go_at_call 8; (with_reducible refine (HS5.out _ _ _ _ _ st sv).mono ?_); rintro e w14 ⟨rfl, hb14⟩; have hB14 : Below w.heap.size w w14 := hB13.trans (hb14.mono hB13.size); replace s1 := s1.on hb14; replace s2 := s2.on hb14; replace st := st.on hb14; replace sv := sv.on hb14))
    go_ret
    exact RetB.of rfl hB14

theorem l1_sums_any (a1 : Option Addr) (c1 : Nat) (L1 : List Nat) (a2 : Option Addr) (c2 : Nat) (L2 : List Nat) (w : World) (ht : Tab w) (s1 : Sl w a1 c1 L1) (z1 : a1 = none → c1 = 0) (s2 : Sl w a2 c2 L2) (z2 : a2 = none → c2 = 0) (hn1 : L1.length ≤ 9223372036854775807) (hn2 : L2.length ≤ 9223372036854775807) :
    Calls Tryz.prog 4 #[.slice a1 L1.length c1, .slice a2 L2.length c2] w (RetB (.bool true) w) := by
  by_cases h : 300 < L1.length ∨ 300 < L2.length
  · exact l1_sums_out a1 c1 _ a2 c2 _ w ht hn1 hn2 h
  · exact l1_sums_walk a1 c1 L1 a2 c2 L2 w ht s1 z1 s2 z2 (by omega) (by omega)
end Go.Proofs.YtcdndcbfmlnpjaaGreatDoor

/- What the cards of chapter 1 share, more: a slice, and that nil has no room. -/
namespace Go.Proofs.YtcdndcbfmlnpjaaGreatDoor
set_option linter.all false
open Go.ChangeShapes Go.WideShapes Go.ChangeAt Go.RowKit Go.WideMaps Go.WideElems Go.Joins
open Go.ChangeMaps (open_string shut_string)

set_option maxRecDepth 100000 in
theorem par_u32n {H : Type} {enc : TypeId × Value → H} {W : World} {r : Reach} {b0 : Nat} {v : Value} {d : DataW H} {p : List MemPlace} (hv : Value.okWide Tryz.prog W r b0 22 v) (h : DataW.Trod enc Tryz.prog W 0 (fun _ => true) true 22 v d p) :
    ∃ (a : Option Addr) (c : Nat) (l : List Nat), v = .slice a l.length c ∧ l.length ≤ 9223372036854775807 ∧ Sl W a c l ∧ (a = none → c = 0) := by
  obtain ⟨a0, len, cap, rfl⟩ := okWide_slice Tryz.underlying22 hv
  obtain ⟨fuel, hf⟩ := h
  rcases open_ints Tryz.underlying22 Tryz.underlying63 (show Tryz.prog.cellsOf 63 = 1 by kernel_rfl) hf with ⟨hcs, hx⟩ | ⟨a, len', cap', zs, hcs, _, hl, hm, hz, hx, hcell, hwz⟩
  · simp only [Value.cells, List.cons.injEq, Value.slice.injEq, and_true] at hcs
    obtain ⟨rfl, rfl, rfl⟩ := hcs
    exact ⟨none, 0, [], rfl, Nat.zero_le _, Sl.nil _ _ _, fun _ => rfl⟩
  · simp only [Value.cells, List.cons.injEq, Value.slice.injEq, and_true] at hcs
    obtain ⟨rfl, rfl, rfl⟩ := hcs
    simp only [if_true] at hz
    unfold maxLen at hm
    have hwf : ∀ k, k < zs.length → 0 ≤ zs.getD k 0 ∧ zs.getD k 0 < 4294967296 := fun k hk => wf_u32 (hwz _ (by
      rw [show zs.getD k 0 = zs[k] by simp [List.getD, hk]]; exact List.getElem_mem hk))
    have hlen : ((zs.take len).map Int.toNat).length = len := by simp; omega
    refine ⟨some a, cap, (zs.take len).map Int.toNat, by rw [hlen], by rw [hlen]; omega, ⟨fun h0 => ?_, by rw [hlen]; exact hl, fun x hx => ?_⟩, fun e => by cases e⟩
    · rw [hlen] at h0
      obtain ⟨b, off, rfl, hc⟩ := ints_at hcell (by omega)
      have hc0 := hc 0 (by omega)
      refine ⟨b, off, rfl, World.block_lt_of_cell? _ _ hc0, fun k hk => ?_⟩
      rw [hlen] at hk
      rw [hc k (by omega)]
      have h2 := hwf k (by omega)
      congr 2
      simp only [List.getElem_map, List.getElem_take]
      rw [show zs.getD k 0 = zs[k]'(by omega) by simp [List.getD, show k < zs.length by omega]] at h2 ⊢
      omega
    · obtain ⟨z, hz2, rfl⟩ := List.mem_map.1 hx
      have := wf_u32 (hwz z (List.mem_of_mem_take hz2))
      show z.toNat < 4294967296
      omega
end Go.Proofs.YtcdndcbfmlnpjaaGreatDoor
