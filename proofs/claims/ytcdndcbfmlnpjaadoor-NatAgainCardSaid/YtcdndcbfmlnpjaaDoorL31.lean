/- The quotient times the divisor, and what is left, is the number, and what is left is below the divisor. -/
import Derived.Test.YtcdndcbfmlnpjaaDoorL30
import Derived.Test.YtcdndcbfmlnpjaaDoorN27
namespace Go.Proofs.YtcdndcbfmlnpjaaDoor
set_option linter.all false
open Go.RowKit

theorem Na.add_fits {l m : List Nat} {x y : Nat} (hx : Na.val l = x) (hy : Na.val m = y) (h : x + y < Na.B ^ 256) : Na.add l m = (Na.limbs (x + y), 0) := by
  subst hx hy
  rw [Na.add, Na.not_big_lt (k := 256) (by omega) (Nat.le_refl _), Na.not_big_lt (k := 256) (by omega) (Nat.le_refl _), if_neg (by decide)]
  exact Na.fits_lt h (Nat.le_refl _)
theorem Na.mul_fits {l m : List Nat} {x y : Nat} (hx : Na.val l = x) (hy : Na.val m = y) (h1 : x < Na.B ^ 256) (h2 : y < Na.B ^ 256) (h : x * y < Na.B ^ 256) : Na.mul l m = (Na.limbs (x * y), 0) := by
  subst hx hy
  rw [Na.mul, Na.not_big_lt h1 (Nat.le_refl _), Na.not_big_lt h2 (Nat.le_refl _), if_neg (by decide)]
  exact Na.fits_lt h (Nat.le_refl _)
theorem adds_fit {l m : List Nat} {n x y : Nat} (hx : Na.val l = x) (hy : Na.val m = y) (h : x + y < Na.B ^ 256) (hl : l.length ≤ 1000000) (hm : m.length ≤ 1000000) (hn : n = x + y) : AddsTo l m n :=
  fun w a c b d s s' => (na_add_any a c l b d m w s s' hl hm).mono fun _ _ hg => hg.gvl (by rw [Na.add_fits hx hy h, hn])
theorem muls_fit {l m : List Nat} {n x y : Nat} (hx : Na.val l = x) (hy : Na.val m = y) (h1 : x < Na.B ^ 256) (h2 : y < Na.B ^ 256) (h : x * y < Na.B ^ 256) (hl : l.length ≤ 1000000) (hm : m.length ≤ 1000000) (hn : n = x * y) : MulsTo l m n :=
  fun w a c b d s s' => (na_mul_any a c l b d m w s s' hl hm).mono fun _ _ hg => hg.gvl (by rw [Na.mul_fits hx hy h1 h2 h, hn])
/-- A call's answer: two lists and an error. -/
def GvD (q r : Nat) (er : Int) (w : World) (e : Ending) (w' : World) : Prop := ∃ a c a' c', e = .returned (.tuple #[.slice a (Na.limbs q).length c, .slice a' (Na.limbs r).length c', .int .i64 er]) ∧ Sl w' a c (Na.limbs q) ∧ Sl w' a' c' (Na.limbs r) ∧ Below w.heap.size w w'
abbrev DivsTo (l m : List Nat) (q r : Nat) (er : Int) : Prop := ∀ (w : World) (a : Option Addr) (c : Nat) (b : Option Addr) (d : Nat), Sl w a c l → Sl w b d m → Calls Tryd.prog 13 #[.slice a l.length c, .slice b m.length d] w (GvD q r er w)
theorem divs_to {l m : List Nat} {q r : Nat} {er : Int} (h : Na.divMod l m = (Na.limbs q, Na.limbs r, er)) (hl : l.length ≤ 1000000) (hm : m.length ≤ 1000000) : DivsTo l m q r er :=
  fun w a c b d s s' => (na_divmod_any a c l b d m w s s' hl hm).mono fun _ _ hg => by
    rw [h] at hg
    obtain ⟨a, c, a', c', rfl, hs, _, hs', _, hb⟩ := hg
    exact ⟨a, c, a', c', rfl, hs, hs', hb⟩
theorem Na.divMod_ok {l m : List Nat} (h1 : Na.val l < Na.B ^ 256) (h2 : Na.val m < Na.B ^ 256) : Na.divMod l m = if Na.val m = 0 then ([], [], 10) else (Na.limbs (Na.val l / Na.val m), Na.limbs (Na.val l % Na.val m), 0) := by
  rw [Na.divMod, Na.not_big_lt h1 (Nat.le_refl _), Na.not_big_lt h2 (Nat.le_refl _), if_neg (by decide)]
abbrev LenTo (l : List Nat) (n : Nat) : Prop := ∀ (w : World) (a : Option Addr) (c : Nat), Sl w a c l → Calls Tryd.prog 14 #[.slice a l.length c] w (RetB (.int .i64 (n : Nat)) w)
theorem len_to {l : List Nat} {n : Nat} (h : Na.bitLen (Na.val l) = n) (hl : l.length ≤ 1000000) : LenTo l n :=
  fun w a c s => (na_len_any a c l w s hl).mono fun _ _ hg => ⟨by rw [← h]; exact hg.1, by rw [← hg.2]; exact Below.refl _ _⟩
abbrev CmpTo (l m : List Nat) (r : Int) : Prop := ∀ (w : World) (a : Option Addr) (c : Nat) (b : Option Addr) (d : Nat), Sl w a c l → Sl w b d m → Calls Tryd.prog 15 #[.slice a l.length c, .slice b m.length d] w (RetB (.int .i64 r) w)
theorem cmp_to {l m : List Nat} {r : Int} (h : Na.cmp l m = r) (hl : l.length ≤ 1000000) (hm : m.length ≤ 1000000) : CmpTo l m r :=
  fun w a c b d s s' => by have := na_cmp_any a c l b d m w s s' hl hm; rwa [h] at this
theorem Na.bitLen_pos {n : Nat} (h : n ≠ 0) : 0 < Na.bitLen n := by rw [Na.bitLen, if_neg h]; exact Nat.succ_pos _

set_option maxRecDepth 100000 in
set_option maxHeartbeats 1000000 in
theorem l1_quots_out (a : Option Addr) (c : Nat) (b : Option Addr) (d : Nat) (n m : Nat) (w : World) (ht : Tab w) (hn : n ≤ 9223372036854775807) (hm : m ≤ 9223372036854775807) (h : 256 < n ∨ 256 < m) :
    Calls Tryd.prog 4 #[.slice a n c, .slice b m d] w (RetB (.bool true) w) := by
  have HS := Lib.hid (l1_shown_any w ht)
  by_cases h1 : 256 < n
  · clear h
    go_enter Tryd.func4, Tryd.ntmps4
    go_wp2_with (go_at_call 7; (with_reducible refine (HS.out).mono ?_); rintro e w1 ⟨rfl, hb_w1⟩; have hB_w1 : Below (w).heap.size (w) w1 := Below.trans (by (repeat (first | exact Below.refl _ _ | assumption | refine Below.setCell ?_ (by first | omega | (simp <;> omega)) _ | refine Below.alloc ?_ (by first | omega | (simp <;> omega)) _ | refine Below.drew ?_ | refine below_drewN' ?_ _))) (hb_w1.mono (by first | omega | (simp <;> omega))); obtain ⟨hc_w1, hf_w1⟩ := bcell hb_w1; have hz_w1 := hb_w1.size; (try simp only [size_drew', size_drewN', World.size_alloc, World.size_setCell] at hz_w1))
    go_ret
    exact RetB.of rfl hB_w1
  · have h2 : 256 < m := by omega
    clear h
    go_enter Tryd.func4, Tryd.ntmps4
    go_wp2_with (go_at_call 7; (with_reducible refine (HS.out).mono ?_); rintro e w1 ⟨rfl, hb_w1⟩; have hB_w1 : Below (w).heap.size (w) w1 := Below.trans (by (repeat (first | exact Below.refl _ _ | assumption | refine Below.setCell ?_ (by first | omega | (simp <;> omega)) _ | refine Below.alloc ?_ (by first | omega | (simp <;> omega)) _ | refine Below.drew ?_ | refine below_drewN' ?_ _))) (hb_w1.mono (by first | omega | (simp <;> omega))); obtain ⟨hc_w1, hf_w1⟩ := bcell hb_w1; have hz_w1 := hb_w1.size; (try simp only [size_drew', size_drewN', World.size_alloc, World.size_setCell] at hz_w1))
    go_ret
    exact RetB.of rfl hB_w1

set_option maxRecDepth 100000 in
set_option maxHeartbeats 4000000 in
theorem l1_quots_zero (a1 : Option Addr) (c1 : Nat) (L1 : List Nat) (a2 : Option Addr) (c2 : Nat) (L2 : List Nat) (w : World) (ht : Tab w) (s1 : Sl w a1 c1 L1) (s2 : Sl w a2 c2 L2) (h1 : L1.length ≤ 256) (h2 : L2.length ≤ 256) (hd : DivsTo L1 L2 0 0 10) (hl : LenTo L2 0) :
    Calls Tryd.prog 4 #[.slice a1 L1.length c1, .slice a2 L2.length c2] w (RetB (.bool true) w) := by
  have HS := Lib.hid (l1_shown_any w ht)
  have hz : (Na.limbs 0).length = 0 := by rw [Na.limbs_zero]; rfl
  have HD := Lib.hid hd
  have HL := Lib.hid (show ∀ (w : World) (a : Option Addr) (c : Nat), Sl w a c L2 → Calls Tryd.prog 14 #[.slice a L2.length c] w (RetB (.int .i64 0) w) from hl)
  clear hd hl
  go_enter Tryd.func4, Tryd.ntmps4
  go_wp2_with (first
    | (go_at_call 7; (with_reducible refine (HS.out).mono ?_); rintro e w1 ⟨rfl, hb1⟩; have hB1 : Below w.heap.size w w1 := hb1; replace s1 := s1.on hb1; replace s2 := s2.on hb1)
    | (go_at_call 13; (with_reducible refine (HD.out _ _ _ _ _ s1 s2).mono ?_); rintro e w2 ⟨aq, cq, ar, cr, rfl, sq, sr, hb2⟩; have hB2 : Below w.heap.size w w2 := hB1.trans (hb2.mono hB1.size); replace s1 := s1.on hb2; replace s2 := s2.on hb2)
    | (go_at_call 14; (with_reducible refine (HL.out _ _ _ s2).mono ?_); rintro e w3 ⟨rfl, hb3⟩; have hB3 : Below w.heap.size w w3 := hB2.trans (hb3.mono hB2.size); replace s1 := s1.on hb3; replace s2 := s2.on hb3))
  go_ret
  exact RetB.of rfl hB3

set_option maxRecDepth 100000 in
set_option maxHeartbeats 4000000 in
theorem l1_quots_walk (a1 : Option Addr) (c1 : Nat) (L1 : List Nat) (a2 : Option Addr) (c2 : Nat) (L2 : List Nat) (w : World) (ht : Tab w) (s1 : Sl w a1 c1 L1) (s2 : Sl w a2 c2 L2) (h1 : L1.length ≤ 256) (h2 : L2.length ≤ 256) (q r p n bl : Nat) (hbl : 0 < bl) (hbl2 : bl ≤ 1000000)
    (hd : DivsTo L1 L2 q r 0) (hl : LenTo L2 bl) (hm : MulsTo (Na.limbs q) L2 p) (ha : AddsTo (Na.limbs p) (Na.limbs r) n) (htr : TrimsTo L1 n) (he : SameNum n) (hc : CmpTo (Na.limbs r) L2 (-1)) :
    Calls Tryd.prog 4 #[.slice a1 L1.length c1, .slice a2 L2.length c2] w (RetB (.bool true) w) := by
  have HS := Lib.hid (l1_shown_any w ht)
  have HD := Lib.hid hd; have HL := Lib.hid hl; have HM := Lib.hid hm; have HA := Lib.hid ha; have HT := Lib.hid htr; have HE := Lib.hid he; have HC := Lib.hid hc
  have hb0 : ((bl : Int) == 0) = false := by simp; omega
  clear hd hl hm ha htr he hc
  go_enter Tryd.func4, Tryd.ntmps4
  go_wp2_with (first
    | (go_at_call 7; (with_reducible refine (HS.out).mono ?_); rintro e w1 ⟨rfl, hb1⟩; have hB1 : Below w.heap.size w w1 := hb1; replace s1 := s1.on hb1; replace s2 := s2.on hb1)
    | (go_at_call 13; (with_reducible refine (HD.out _ _ _ _ _ s1 s2).mono ?_); rintro e w2 ⟨aq, cq, ar, cr, rfl, sq, sr, hb2⟩; have hB2 : Below w.heap.size w w2 := hB1.trans (hb2.mono hB1.size); replace s1 := s1.on hb2; replace s2 := s2.on hb2)
    | (go_at_call 14; (with_reducible refine (HL.out _ _ _ s2).mono ?_); rintro e w3 ⟨rfl, hb3⟩; have hB3 : Below w.heap.size w w3 := hB2.trans (hb3.mono hB2.size); replace s1 := s1.on hb3; replace s2 := s2.on hb3; replace sq := sq.on hb3; replace sr := sr.on hb3)
    | (go_at_call 12; (with_reducible refine (HM.out _ _ _ _ _ sq s2).mono ?_); rintro e w4 ⟨ad_p, ca_p, rfl, sp, hb4⟩; have hB4 : Below w.heap.size w w4 := hB3.trans (hb4.mono hB3.size); replace s1 := s1.on hb4; replace s2 := s2.on hb4; replace sq := sq.on hb4; replace sr := sr.on hb4)
    | (go_at_call 8; (with_reducible refine (HA.out _ _ _ _ _ sp sr).mono ?_); rintro e w5 ⟨ad_ss, ca_ss, rfl, sss, hb5⟩; have hB5 : Below w.heap.size w w5 := hB4.trans (hb5.mono hB4.size); replace s1 := s1.on hb5; replace s2 := s2.on hb5; replace sr := sr.on hb5; replace sp := sp.on hb5)
    | (go_at_call 11; (with_reducible refine (HT.out _ _ _ s1).mono ?_); rintro e w6 ⟨ad_t, rfl, st, hb6⟩; have hB6 : Below w.heap.size w w6 := hB5.trans (hb6.mono hB5.size); replace s1 := s1.on hb6; replace s2 := s2.on hb6; replace sr := sr.on hb6; replace sss := sss.on hb6)
    | (go_at_call 10; (with_reducible refine (HE.out _ _ _ _ _ sss st).mono ?_); rintro e w7 ⟨rfl, hb7⟩; have hB7 : Below w.heap.size w w7 := hB6.trans (hb7.mono hB6.size); replace s2 := s2.on hb7; replace sr := sr.on hb7; replace sss := sss.on hb7; replace st := st.on hb7)
    | (go_at_call 15; (with_reducible refine (HC.out _ _ _ _ _ sr s2).mono ?_); rintro e w8 ⟨rfl, hb8⟩; have hB8 : Below w.heap.size w w8 := hB7.trans (hb8.mono hB7.size); replace s2 := s2.on hb8; replace sr := sr.on hb8))
  go_ret
  exact RetB.of rfl hB8

theorem l1_quots_any (a1 : Option Addr) (c1 : Nat) (L1 : List Nat) (a2 : Option Addr) (c2 : Nat) (L2 : List Nat) (w : World) (ht : Tab w) (s1 : Sl w a1 c1 L1) (s2 : Sl w a2 c2 L2) (hn1 : L1.length ≤ 9223372036854775807) (hn2 : L2.length ≤ 9223372036854775807) :
    Calls Tryd.prog 4 #[.slice a1 L1.length c1, .slice a2 L2.length c2] w (RetB (.bool true) w) := by
  by_cases h : 256 < L1.length ∨ 256 < L2.length
  · exact l1_quots_out a1 c1 a2 c2 _ _ w ht hn1 hn2 h
  · have h1 : L1.length ≤ 256 := by omega
    have h2 : L2.length ≤ 256 := by omega
    have q1 : Na.val L1 < Na.B ^ 256 := Nat.lt_of_lt_of_le (Na.val_lt _ s1.ok) (Na.pow_le h1)
    have q2 : Na.val L2 < Na.B ^ 256 := Nat.lt_of_lt_of_le (Na.val_lt _ s2.ok) (Na.pow_le h2)
    have le : ∀ {n : Nat}, n < Na.B ^ 256 → (Na.limbs n).length ≤ 1000000 := fun h => Na.len_small h (by omega)
    have hdm := Na.divMod_ok (l := L1) (m := L2) q1 q2
    by_cases hz : Na.val L2 = 0
    · rw [if_pos hz] at hdm
      exact l1_quots_zero a1 c1 L1 a2 c2 L2 w ht s1 s2 h1 h2 (divs_to (by rw [hdm, Na.limbs_zero]) (by omega) (by omega)) (len_to (by rw [hz]; rfl) (by omega))
    · rw [if_neg hz] at hdm
      have e1 : Na.val L1 / Na.val L2 * Na.val L2 ≤ Na.val L1 := Nat.div_mul_le_self _ _
      have e2 : Na.val L1 / Na.val L2 ≤ Na.val L1 := Nat.div_le_self _ _
      have e3 : Na.val L1 % Na.val L2 < Na.val L2 := Nat.mod_lt _ (by omega)
      have e4 : Na.val L1 = Na.val L1 / Na.val L2 * Na.val L2 + Na.val L1 % Na.val L2 := by rw [Nat.mul_comm]; exact (Nat.div_add_mod _ _).symm
      have bb : Na.bitLen (Na.val L2) ≤ 1000000 := by
        rw [Na.bitLen, if_neg hz]
        have h3 := Na.val_lt L2 s2.ok
        rw [show Na.B ^ L2.length = 2 ^ (32 * L2.length) by rw [Nat.pow_mul]] at h3
        have := (Nat.log2_lt hz).2 h3
        omega
      exact l1_quots_walk a1 c1 L1 a2 c2 L2 w ht s1 s2 h1 h2 (Na.val L1 / Na.val L2) (Na.val L1 % Na.val L2) (Na.val L1 / Na.val L2 * Na.val L2) (Na.val L1) (Na.bitLen (Na.val L2)) (Na.bitLen_pos hz) bb
        (divs_to hdm (by omega) (by omega)) (len_to rfl (by omega)) (muls_fit (Na.val_limbs _) rfl (by omega) q2 (by omega) (le (by omega)) (by omega) rfl)
        (adds_fit (Na.val_limbs _) (Na.val_limbs _) (by omega) (le (by omega)) (le (by omega)) e4) (trims_to rfl (by omega)) (same_num (le q1))
        (cmp_to (by rw [Na.cmp, Na.val_limbs, if_pos e3]) (le (by omega)) (by omega))
end Go.Proofs.YtcdndcbfmlnpjaaDoor
