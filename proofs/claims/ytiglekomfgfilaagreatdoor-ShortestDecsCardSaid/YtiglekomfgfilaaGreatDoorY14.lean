/- DivMod, whole. -/
import Derived.Test.YtiglekomfgfilaaGreatDoorY13
import Derived.Test.YtiglekomfgfilaaGreatDoorY8
import Derived.Test.YtiglekomfgfilaaGreatDoorY7
import Derived.Test.YtiglekomfgfilaaGreatDoorY1
import Derived.Test.YtiglekomfgfilaaGreatDoorY5
import Derived.Test.YtiglekomfgfilaaGreatDoorY6
import Derived.Test.YtiglekomfgfilaaGreatDoorY2
namespace Go.Proofs.YtiglekomfgfilaaGreatDoor
set_option maxRecDepth 100000
set_option maxHeartbeats 2000000
set_option linter.all false
open Go.RowKit
theorem Na.cut_last {a : List Nat} {n : Nat} (h : (Na.cut a).length = n + 1) (hlt : n < (Na.cut a).length) : (Na.cut a)[n]'hlt ≠ 0 := by
  have hne : Na.cut a ≠ [] := by intro e; rw [e] at h; simp at h
  have h1 : (Na.cut a).getLast hne ≠ 0 := Na.limbs_last (Na.val a) hne
  rw [List.getLast_eq_getElem] at h1
  have e : (Na.cut a).length - 1 = n := by omega
  simp only [e] at h1
  exact h1
section
variable (a : Option Addr) (c : Nat) (l : List Nat) (b : Option Addr) (d : Nat) (m : List Nat) (w : World) (h : Sl w a c l) (h' : Sl w b d m) (hn : l.length ≤ 1000000) (hm : m.length ≤ 1000000)
include h h' hn hm
theorem na_divmod_more (hbig : (Na.big l || Na.big m) = false) (hge : ¬ Na.val l < Na.val m) (h2 : 2 ≤ Na.rt m) : Calls Tryz.prog 157 #[.slice a l.length c, .slice b m.length d] w (GivesQ (Na.divMod l m) w) := by
  have H1 := Lib.hid (na_over2_any h h' hn hm false hbig)
  obtain ⟨hl1, hl2⟩ := Na.not_big hbig
  have hm0 : Na.val m ≠ 0 := fun e => by
    have := (Na.cut_nil_iff m).2 e
    rw [Na.rt, this] at h2; simp at h2
  have e2 := Lib.hid (show Na.divMod l m = (Na.limbs (Na.val l / Na.val m), Na.limbs (Na.val l % Na.val m), 0) by rw [Na.divMod, hbig, if_neg (by simp), if_neg hm0])
  have hB : Below w.heap.size w (w.alloc (Obj.cells #[Value.slice a l.length c, Value.slice b m.length d] 100)) := (Below.refl _ _).alloc (Nat.le_refl _) _
  have hrt : Na.rt m ≤ Na.rt l := by
    rcases Nat.lt_or_ge (Na.rt l) (Na.rt m) with h3 | h3
    · exact absurd (Na.lt_of_rt h.ok h'.ok h3) hge
    · exact h3
  obtain ⟨n, hnr⟩ : ∃ n, (Na.cut m).length = n + 1 + 1 := ⟨(Na.cut m).length - 2, by have : (Na.cut m).length = Na.rt m := rfl; omega⟩
  obtain ⟨N1, hN1⟩ : ∃ N, N = n + 1 := ⟨_, rfl⟩
  obtain ⟨N, hN⟩ : ∃ N, N = N1 + 1 := ⟨_, rfl⟩
  have hlm : (Na.cut m).length = N := by rw [hnr, hN, hN1]
  obtain ⟨mm, hmm⟩ : ∃ mm, (Na.cut l).length = N + mm := ⟨(Na.cut l).length - N, by
    have e1 : (Na.cut m).length = Na.rt m := rfl
    have e2 : (Na.cut l).length = Na.rt l := rfl
    omega⟩
  have hlast := Na.cut_last (a := m) hnr (by omega)
  have hlong := fun wr (hb : Below w.heap.size w wr) => na_long_any a c (Na.cut l) b d (Na.cut m) n N1 N mm wr (h.on hb).cut (h'.on hb).cut hN hN1 hlm hmm hl1 hlast
  rw [Na.val_cut, Na.val_cut] at hlong
  have H2 := na_right_any b d m _ (h'.on hB) hm
  obtain ⟨rm, hrm⟩ : ∃ x, x = Na.rt m := ⟨_, rfl⟩
  rw [← hrm] at H2
  have hr0 : ((rm : Int) == 0) = false := by simp; omega
  have H2' := Lib.hid H2
  have HC := na_cmp_any a c l b d m _ (h.on hB) (h'.on hB) hn hm
  have hc0 : ∃ r : Int, r = Na.cmp l m ∧ decide (r < 0) = false := ⟨_, rfl, decide_eq_false (by rw [Na.cmp, if_neg hge]; split <;> omega)⟩
  obtain ⟨r0, hr0', hr1⟩ := hc0
  rw [← hr0'] at HC
  have HC' := Lib.hid HC
  have h4 := fun wr (hb : Below w.heap.size w wr) => na_cut_any b d m wr (h'.on hb) hm
  have h3 := fun wr (hb : Below w.heap.size w wr) => na_cut_any a c l wr (h.on hb) hn
  obtain ⟨ql, hql⟩ : ∃ q, q = (Na.cut l).length := ⟨_, rfl⟩
  obtain ⟨qm, hqm⟩ : ∃ q, q = (Na.cut m).length := ⟨_, rfl⟩
  rw [← hql] at hlong h3
  rw [← hqm] at hlong h4
  have hq1 : ((qm : Int) == 1) = false := by
    have : qm = n + 1 + 1 := by rw [hqm, hnr]
    simp; omega
  have H4 := Lib.hid h4; have H3 := Lib.hid h3; have HLG := Lib.hid hlong
  clear hbig H2 HC hge h2 hm0 hrt hnr hN1 hN hlm hmm hlast hlong hr0' h3 h4 hql hqm hrm
  go_enter Tryz.func157, Tryz.ntmps157
  go_wp2_with (first | (go_at_call 112; (with_reducible refine (H1.out).mono ?_); rintro e w' ⟨rfl, rfl⟩) | (go_at_call 113; (with_reducible refine (H2'.out).mono ?_); rintro e w' ⟨rfl, rfl⟩) | (go_at_call 188; (with_reducible refine (HC'.out).mono ?_); rintro e w2 ⟨rfl, hb2⟩; have hB2 : Below w.heap.size w w2 := hB.trans (hb2.mono (by simp [World.size_alloc]))) | (go_at_call 115; (with_reducible refine (H4.out _ hB2).mono ?_); rintro e w' ⟨rfl, rfl⟩) | (go_at_call 115; (with_reducible refine (H3.out _ hB2).mono ?_); rintro e w' ⟨rfl, rfl⟩) | (go_at_call 189; (with_reducible refine (HLG.out _ hB2).mono ?_); rintro e w3 ⟨a1, c1, a2, c2, rfl, hs1, ho1, hs2, ho2, hb3⟩))
  have hsz := hB2.size
  have up : ∀ {a : Option Addr} {k : Nat}, Own w3 w2.heap.size a k → Own w3 w.heap.size a k := fun ho h0 => by
    obtain ⟨b', o', e, hb', hf⟩ := ho h0
    exact ⟨b', o', e, Nat.le_trans hsz hb', hf⟩
  refine bodyPost_ret (v := .tuple #[.slice a1 (Na.limbs (Na.val l / Na.val m)).length c1, .slice a2 (Na.limbs (Na.val l % Na.val m)).length c2, .int .i64 0]) (by simp [results, Tryz.results157, go_sem]) rfl (by rw [e2.out]; exact ⟨a1, c1, a2, c2, rfl, hs1, up ho1, hs2, up ho2, hB2.trans (hb3.mono hsz)⟩)
theorem na_divmod_any : Calls Tryz.prog 157 #[.slice a l.length c, .slice b m.length d] w (GivesQ (Na.divMod l m) w) := by
  cases hbig : (Na.big l || Na.big m) with
  | true => exact na_divmod_big a c l b d m w h h' hn hm hbig
  | false =>
    by_cases hz : Na.val m = 0
    · exact na_divmod_zero a c l b d m w h h' hn hm hbig hz
    · by_cases hlt : Na.val l < Na.val m
      · exact na_divmod_less a c l b d m w h h' hn hm hbig hlt
      · have hr : Na.rt m ≠ 0 := fun e => hz ((Na.cut_nil_iff m).1 (List.eq_nil_of_length_eq_zero e))
        by_cases h1 : Na.rt m = 1
        · exact na_divmod_one a c l b d m w h h' hn hm hbig hlt h1
        · exact na_divmod_more a c l b d m w h h' hn hm hbig hlt (by omega)
end
end Go.Proofs.YtiglekomfgfilaaGreatDoor

/- Plain Lean: texts of digits and a power of ten are read as what they say: ints, middles, a little more, a little less; the powers of 128 bits. -/
namespace Go.Proofs.YtiglekomfgfilaaGreatDoor.Fl
set_option linter.all false
open Go
theorem parse_plain (ds : Dc.Bs) (hd : Dc.allDig ds = true) (hne : ds ≠ []) : Dc.parse ds = Dc.mk false ds 0 := by
  have h := Dc.parse_form false ds [] hd hne (fun d h => by simp at h)
  rw [if_neg (by decide), List.nil_append, List.append_nil] at h
  rw [h]
  unfold Dc.tail
  simp
theorem ten_no_two (j i : Nat) (hj : 0 < j) : 10 ^ j ≠ 2 ^ i := by
  intro h
  have h5 : ∀ i : Nat, 2 ^ i % 5 ≠ 0 := by
    intro i
    induction i with
    | zero => decide
    | succ i ih => rw [Nat.pow_succ]; omega
  apply h5 i
  rw [← h]
  obtain ⟨k, rfl⟩ : ∃ k, j = k + 1 := ⟨j - 1, by omega⟩
  rw [Nat.pow_succ]; omega
theorem pw_range (x : Int) : 170141183460469231731687303715884105728 ≤ pwP x ∧ pwP x < 340282366920938463463374607431768211456 := by
  have e7 : (170141183460469231731687303715884105728 : Nat) = 2 ^ 127 := by decide
  have e8 : (340282366920938463463374607431768211456 : Nat) = 2 ^ 128 := by decide
  rw [e7, e8]
  by_cases h0 : x < 0
  · obtain ⟨j, hj⟩ : ∃ j : Nat, j = (-x).toNat := ⟨_, rfl⟩
    have hB0 : 10 ^ j ≠ 0 := Nat.ne_of_gt (Nat.pow_pos (by decide))
    obtain ⟨a1, a2, a3⟩ := bitLen_ge hB0
    have hne := ten_no_two j (Na.bitLen (10 ^ j) - 1) (by omega)
    rw [pwP, if_pos h0, ← hj]
    obtain ⟨B, hB⟩ : ∃ B, B = 10 ^ j := ⟨_, rfl⟩
    rw [← hB] at a1 a2 a3 hB0 hne ⊢
    obtain ⟨L, hL⟩ : ∃ L, Na.bitLen B = L + 1 := ⟨Na.bitLen B - 1, by omega⟩
    rw [hL, Nat.add_sub_cancel] at a1 hne
    rw [hL] at a2 ⊢
    have hBp : 0 < B := by omega
    constructor
    · rw [Nat.le_div_iff_mul_le hBp, Nat.pow_add, Nat.mul_comm (2 ^ (L + 1))]
      exact Nat.mul_le_mul_left _ (Nat.le_of_lt a2)
    · rw [Nat.div_lt_iff_lt_mul hBp, show L + 1 + 127 = 128 + L by omega, Nat.pow_add]
      exact Nat.mul_lt_mul_of_pos_left (by omega) (Nat.pow_pos (by decide))
  · obtain ⟨A, hA⟩ : ∃ A, A = 10 ^ x.toNat := ⟨_, rfl⟩
    have hA0 : A ≠ 0 := by rw [hA]; exact Nat.ne_of_gt (Nat.pow_pos (by decide))
    obtain ⟨a1, a2, a3⟩ := bitLen_ge hA0
    have hE : pwE x = (Na.bitLen A : Int) - 128 := by rw [pwE, if_neg h0, ← hA]
    rw [pwP, if_neg h0, hE, ← hA]
    obtain ⟨L, hL⟩ : ∃ L, Na.bitLen A = L + 1 := ⟨Na.bitLen A - 1, by omega⟩
    rw [hL, Nat.add_sub_cancel] at a1
    rw [hL] at a2 ⊢
    by_cases h1 : ((L + 1 : Nat) : Int) - 128 ≤ 0
    · rw [if_pos h1]
      obtain ⟨k, hk⟩ : ∃ k : Nat, L + k = 127 := ⟨127 - L, by omega⟩
      rw [show (-(((L + 1 : Nat) : Int) - 128)).toNat = k by omega]
      have p : 0 < 2 ^ k := Nat.pow_pos (by decide)
      constructor
      · rw [← hk, Nat.pow_add]; exact Nat.mul_le_mul_right _ a1
      · rw [show 128 = L + 1 + k by omega, Nat.pow_add]; exact Nat.mul_lt_mul_of_pos_right a2 p
    · rw [if_neg h1]
      obtain ⟨k, hk⟩ : ∃ k : Nat, L = 127 + k := ⟨L - 127, by omega⟩
      rw [show (((L + 1 : Nat) : Int) - 128).toNat = k by omega]
      have p : 0 < 2 ^ k := Nat.pow_pos (by decide)
      constructor
      · rw [Nat.le_div_iff_mul_le p, ← Nat.pow_add, ← hk]; exact a1
      · rw [Nat.div_lt_iff_lt_mul p, ← Nat.pow_add, show 128 + k = L + 1 by omega]; exact a2
end Go.Proofs.YtiglekomfgfilaaGreatDoor.Fl

/- Plain Lean: lists of limbs of a middling size: powers of ten, shifts, quotients. -/
namespace Go.Proofs.YtiglekomfgfilaaGreatDoor.Fl
set_option linter.all false
open Go
def n256 : Nat := 256
def Mid (n : Nat) : Prop := (Na.limbs n).length ≤ 256
theorem mid_bits {n k : Nat} (h : n < 2 ^ (32 * k)) (hk : k ≤ 256) : Mid n := by
  rw [Nat.pow_mul, show (2 : Nat) ^ 32 = Na.B from rfl] at h
  exact Nat.le_trans (Na.limbs_len_le _ _ h) hk
theorem mid_pow {n k : Nat} (h : n < 2 ^ k) (hk : k ≤ 8192) : Mid n :=
  mid_bits (k := n256) (Nat.lt_of_lt_of_le h (Nat.pow_le_pow_right (by decide) (by unfold n256; omega))) (by unfold n256; omega)
theorem mid_bl {n : Nat} (h : Na.bitLen n ≤ 8192) : Mid n := by
  by_cases h0 : n = 0
  · subst h0; unfold Mid; rw [Na.limbs_zero]; simp
  · exact mid_pow (bitLen_ge h0).2.1 h
theorem mid_le {n m : Nat} (h : n ≤ m) (hm : Mid m) : Mid n := by
  unfold Mid at hm ⊢
  exact (Na.limbs_len_iff _ _).2 (Nat.lt_of_le_of_lt h ((Na.limbs_len_iff _ _).1 hm))
theorem mid_big {n : Nat} (h : Mid n) : Na.big (Na.limbs n) = false := by
  rw [Na.big, Na.rt_limbs]; exact decide_eq_false (by unfold Mid at h; omega)
theorem ten_two (j : Nat) : 10 ^ j ≤ 2 ^ (4 * j) := by
  rw [Nat.pow_mul]; exact Nat.pow_le_pow_left (by decide) _
theorem bitLen_lt {n k : Nat} (h : n < 2 ^ k) : Na.bitLen n ≤ k := Na.bitLen_le' h
theorem quot_small {N s X k : Nat} (hN : N < 10 ^ s) (h : s ≤ X + n310) : N * 2 ^ k / 10 ^ X < 2 ^ (4 * n310 + k) := by
  rw [Nat.div_lt_iff_lt_mul (Nat.pow_pos (by decide))]
  have h1 : N * 2 ^ k < 10 ^ (X + n310) * 2 ^ k := Nat.mul_lt_mul_of_pos_right (Nat.lt_of_lt_of_le hN (Nat.pow_le_pow_right (by decide) h)) (Nat.pow_pos (by decide))
  have h2 : 10 ^ n310 * (2 ^ k * 10 ^ X) ≤ 2 ^ (4 * n310) * (2 ^ k * 10 ^ X) := Nat.mul_le_mul_right _ (ten_two n310)
  rw [Nat.pow_add, Nat.mul_comm (10 ^ X), Nat.mul_assoc, Nat.mul_comm (10 ^ X)] at h1
  rw [Nat.pow_add, Nat.mul_assoc]
  exact Nat.lt_of_lt_of_le h1 h2
theorem ten_len (j : Nat) : Na.bitLen (10 ^ j) ≤ 4 * j + 1 :=
  bitLen_lt (Nat.lt_of_le_of_lt (ten_two j) (Nat.pow_lt_pow_right (by decide) (by omega)))
theorem ten_mid {j : Nat} (hj : j ≤ 2000) : Mid (10 ^ j) := mid_bl (by have := ten_len j; omega)
theorem pow_ten {j : Nat} (hj : j ≤ 2000) : Na.pow 10 (j : Int) = (Na.limbs (10 ^ j), 0) := by
  have h := ten_mid hj
  rw [Na.pow, if_neg (by omega), if_neg (by omega), Int.toNat_natCast, show (10 : Int).toNat = 10 from rfl, Na.fits, if_neg (by unfold Mid at h; omega)]
theorem shl_mid {n k : Nat} (h0 : n ≠ 0) (h : Na.bitLen n + k ≤ 8192) : Na.shl (Na.limbs n) (k : Int) = (Na.limbs (n * 2 ^ k), 0) := by
  rw [Na.shl, if_neg (by omega), mid_big (mid_bl (by omega)), if_neg (by simp), Na.val_limbs, if_neg h0, if_neg (by omega), Int.toNat_natCast]
theorem shr_mid {n k : Nat} (h : Mid n) : Na.shr (Na.limbs n) (k : Int) = (Na.limbs (n / 2 ^ k), decide (n % 2 ^ k ≠ 0), 0) := by
  rw [Na.shr, if_neg (by omega), mid_big h, if_neg (by simp), Na.val_limbs, Int.toNat_natCast]
theorem div_mid {n m : Nat} (hn : Mid n) (hm : Mid m) (h0 : m ≠ 0) : Na.divMod (Na.limbs n) (Na.limbs m) = (Na.limbs (n / m), Na.limbs (n % m), 0) := by
  rw [Na.divMod, mid_big hn, mid_big hm, if_neg (by simp), Na.val_limbs, Na.val_limbs, if_neg h0]
theorem mul_mid {n m : Nat} (hn : Mid n) (hm : Mid m) (h : Mid (n * m)) : Na.mul (Na.limbs n) (Na.limbs m) = (Na.limbs (n * m), 0) := by
  rw [Na.mul, mid_big hn, mid_big hm, if_neg (by simp), Na.val_limbs, Na.val_limbs, Na.fits, if_neg (by unfold Mid at h; omega)]
theorem bitLen_mul_pow {n k : Nat} (h0 : n ≠ 0) : n * 2 ^ k < 2 ^ (Na.bitLen n + k) := by
  rw [Nat.pow_add]; exact Nat.mul_lt_mul_of_pos_right (bitLen_ge h0).2.1 (Nat.pow_pos (by decide))
theorem ten_ne (j : Nat) : 10 ^ j ≠ 0 := Nat.ne_of_gt (Nat.pow_pos (by decide))
theorem pw_neg {j : Nat} (hj : 0 < j) : pwE (-(j : Int)) = -((Na.bitLen (10 ^ j) : Int) + 127) ∧ pwP (-(j : Int)) = 1 * 2 ^ (Na.bitLen (10 ^ j) + 127) / 10 ^ j ∧ pwA (-(j : Int)) = false := by
  have e : (-(-(j : Int))).toNat = j := by omega
  refine ⟨?_, ?_, ?_⟩
  · rw [pwE, if_pos (by omega), e]
  · rw [pwP, if_pos (by omega), e, Nat.one_mul]
  · rw [pwA, if_pos (by omega)]
theorem pw_pos {j : Nat} {e : Int} (he : e = (Na.bitLen (10 ^ j) : Int) - 128) : pwE (j : Int) = e ∧ (e ≤ 0 → pwP (j : Int) = 10 ^ j * 2 ^ (-e).toNat ∧ pwA (j : Int) = true) ∧
    (0 < e → pwP (j : Int) = 10 ^ j / 2 ^ e.toNat ∧ pwA (j : Int) = !decide (10 ^ j % 2 ^ e.toNat ≠ 0)) := by
  have e1 : pwE (j : Int) = e := by rw [pwE, if_neg (by omega), Int.toNat_natCast, he]
  refine ⟨e1, fun h => ⟨?_, ?_⟩, fun h => ⟨?_, ?_⟩⟩
  · rw [pwP, if_neg (by omega), e1, if_pos h, Int.toNat_natCast]
  · rw [pwA, if_neg (by omega), e1, if_pos h]
  · rw [pwP, if_neg (by omega), e1, if_neg (by omega), Int.toNat_natCast]
  · rw [pwA, if_neg (by omega), e1, if_neg (by omega), Int.toNat_natCast]
end Go.Proofs.YtiglekomfgfilaaGreatDoor.Fl

namespace Go.Proofs.YtiglekomfgfilaaGreatDoor
set_option maxRecDepth 100000
set_option maxHeartbeats 400000
set_option linter.all false
open Go.RowKit
theorem r7_digit_any (c : UInt8) (w : World) : Calls Tryz.prog 61 #[.int .u8 c.toNat] w (Ret0 (.bool (Dc.isDig c)) w) := by
  have h1 : (decide (48 ≤ (c.toNat : Int)) && decide ((c.toNat : Int) ≤ 57)) = Dc.isDig c := rfl
  have H1 := Lib.hid h1; clear h1
  by_cases h : 48 ≤ (c.toNat : Int)
  · go_enter Tryz.func61, Tryz.ntmps61
    go_wp2
    go_ret
    exact Ret0.of (by rw [← H1.out]; simp [h])
  · go_enter Tryz.func61, Tryz.ntmps61
    go_wp2
    go_ret
    exact Ret0.of (by rw [← H1.out, decide_eq_false (by omega)]; rfl)
theorem r7_right_any (n : Bool) (s : ByteArray) (x : Int) (w : World) (hs : s.size ≤ 9223372036854775807) :
    Calls Tryz.prog 59 #[.agg #[.bool n, .string s, .int .i64 x]] w (RetB (.bool (Dc.right s.data.toList x)) w) := by
  have hb1 : Below w.heap.size w (w.alloc (Obj.cells #[Value.bool n, Value.string s, Value.int IntKind.i64 x] 27)) := (Below.refl _ _).alloc (Nat.le_refl _) _
  by_cases h0 : s.size = 0
  · have H0 := Lib.hid h0
    replace h0 : s.size ≤ 0 := by omega
    go_enter Tryz.func59, Tryz.ntmps59
    go_wp2_with fail
    go_ret
    exact RetB.of (congrArg Value.bool (Dc.right_nil _ _ (by simpa using H0.out)).symm) hb1
  · replace h0 : 0 < s.size := by omega
    by_cases hall : s.size ≤ 1100 ∧ -100000 ≤ x ∧ x ≤ 100000 ∧ ¬ (s[0].toNat : Int) = 48 ∧ ¬ (s[s.size - 1].toNat : Int) = 48
    · obtain ⟨n2, n3, n4, n0, n1⟩ := hall
      have b0 : ((s[0].toNat : Int) == 48) = false := by simpa using n0
      have b1 : ((s[s.size - 1].toNat : Int) == 48) = false := by simpa using n1
      go_enter Tryz.func59, Tryz.ntmps59
      go_wp2_with fail
      go_loop [4] (fun i => ∃ k : Nat, k ≤ s.size ∧ i = .int .i64 k ∧ (s.data.toList.take k).all Dc.isDig = true) (fun i => s.size - (intOf i).toNat)
      case atStart => exact ⟨0, Nat.zero_le _, rfl, rfl⟩
      case round =>
        obtain ⟨k, hk, rfl, hall⟩ := hrel
        have HA := Lib.hid hall; clear hall
        by_cases hlt : k < s.size
        · have hsn := Lib.hid (all_take_snoc s k hlt Dc.isDig)
          go_wp2_with (go_at_call 61; refine (r7_digit_any _ _).mono ?_; rintro e w' ⟨rfl, rfl⟩)
          · have hd : (!Dc.isDig s[k]) = true := by assumption
            go_ret
            exact RetB.of (congrArg Value.bool (Dc.right_bytes_nodig s x k hlt (by simpa using hd)).symm) hb1
          · have hd : (!Dc.isDig s[k]) = false := by assumption
            go_round
            case rel => exact ⟨k + 1, by omega, by go_num, by rw [hsn.out, HA.out]; simpa using hd⟩
            case measure => simp [intOf]; omega
        · go_wp2
          go_ret
          exact RetB.of (congrArg Value.bool (Dc.right_bytes_true s x h0 n2 n3 n4 n0 n1 (by have := HA.out; rwa [List.take_of_length_le (by simp; omega)] at this)).symm) hb1
    · have HN := Lib.hid hall; clear hall
      go_enter Tryz.func59, Tryz.ntmps59
      go_wp2_with fail
      all_goals first
        | (go_ret; exact RetB.of (congrArg Value.bool (Dc.right_bytes_false s x h0 (by first | omega | (simp only [beq_iff_eq] at *; omega))).symm) hb1)
        | (exfalso; have := HN.out; simp only [beq_eq_false_iff_ne, ne_eq] at *; omega)
end Go.Proofs.YtiglekomfgfilaaGreatDoor

namespace Go.Proofs.YtiglekomfgfilaaGreatDoor
set_option maxRecDepth 100000
set_option maxHeartbeats 400000
set_option linter.all false
open Go.RowKit
theorem below_iter (w : World) (s : ByteArray) (pos : Nat) : Below w.heap.size w (w.iter s pos) := (Below.refl _ _).alloc (Nat.le_refl _) _
theorem all_take_snoc_false (s : ByteArray) (k : Nat) (h : k < s.size) (p : UInt8 → Bool) (hp : p s[k] = false) : s.data.toList.all p = false := by
  rw [List.all_eq_false]
  exact ⟨s[k], List.mem_of_getElem? (bs_getElem? s k h), by simp [hp]⟩
theorem d_plain_any (s : ByteArray) (w : World) :
    Calls Tryz.prog 44 #[.string s] w (RetB (.bool (Dc.allDig s.data.toList)) w) := by
  obtain ⟨res, hres⟩ : ∃ b, b = Dc.allDig s.data.toList := ⟨_, rfl⟩
  rw [← hres]; have HR := Lib.hid hres; clear hres
  go_enter Tryz.func44, Tryz.ntmps44
  go_wp2_with fail
  go_loopw [] (fun wr => ∃ pos : Nat, pos ≤ s.size ∧ wr = w.iter s pos ∧ (s.data.toList.take pos).all Dc.isDig = true) (fun wr => s.size - wr.iterPos w.heap.size)
  case atStart => exact ⟨0, Nat.zero_le _, rfl, rfl⟩
  case round =>
    obtain ⟨pos, hpos, rfl, hall⟩ := hrel
    have HA := Lib.hid hall; clear hall
    by_cases hp : pos < s.size
    · have hsn := Lib.hid (all_take_snoc s pos hp Dc.isDig)
      have hno : Dc.isDig s[pos] = false → false = res := fun h => by rw [HR.out]; exact (all_take_snoc_false s pos hp _ h).symm
      have HNO := Lib.hid hno; clear hno
      by_cases ha : (s[pos]'hp).toNat < 128
      · have hnx : ∀ ty, (Instr.next (.pointer (some ⟨w.heap.size, 0, none⟩)) true ty).run Tryz.prog (w.iter s pos) = _ := fun ty => run_next_ascii w s pos ty hp ha
        go_wp2
        · go_ret
          exact RetB.of (congrArg Value.bool (HNO.out (by simp [Dc.isDig]; omega))) (below_iter _ _ _)
        · go_roundw
          case rel => exact ⟨pos + 1, by omega, rfl, by rw [hsn.out, HA.out]; simp [Dc.isDig]; omega⟩
          case measure => simp; omega
        · go_ret
          exact RetB.of (congrArg Value.bool (HNO.out (by simp [Dc.isDig]; omega))) (below_iter _ _ _)
      · have hd := decode_high s pos hp (by omega)
        have hnx : ∀ ty, (Instr.next (.pointer (some ⟨w.heap.size, 0, none⟩)) true ty).run Tryz.prog (w.iter s pos) = _ := fun ty => run_next_any w s pos ty hp
        go_wp2
        all_goals go_ret
        all_goals exact RetB.of (congrArg Value.bool (HNO.out (by simp [Dc.isDig]; omega))) (below_iter _ _ _)
    · have hnx : ∀ ty, (Instr.next (.pointer (some ⟨w.heap.size, 0, none⟩)) true ty).run Tryz.prog (w.iter s pos) = _ := fun ty => run_next_end w s pos ty hp
      go_wp2
      go_ret
      exact RetB.of (congrArg Value.bool (by have h := HA.out; rw [List.take_of_length_le (by simp; omega)] at h; rw [HR.out]; exact h.symm)) (below_iter _ _ _)
theorem d_right_any (n : Bool) (s : ByteArray) (x : Int) (w : World) (hs : s.size ≤ 9223372036854775807) :
    Calls Tryz.prog 20 #[.agg #[.bool n, .string s, .int .i64 x]] w (RetB (.bool (Dc.right s.data.toList x)) w) := by
  obtain ⟨res, hres⟩ : ∃ b, b = Dc.right s.data.toList x := ⟨_, rfl⟩
  rw [← hres]; have HR := Lib.hid hres; clear hres
  have hb1 : Below w.heap.size w (w.alloc (Obj.cells #[Value.bool n, Value.string s, Value.int IntKind.i64 x] 27)) := (Below.refl _ _).alloc (Nat.le_refl _) _
  by_cases h0 : s.size = 0
  · have he := isEmpty_of_zero h0
    have H0 := Lib.hid h0; clear h0
    go_enter Tryz.func20, Tryz.ntmps20
    go_wp2_with fail
    go_ret
    exact RetB.of (congrArg Value.bool (by rw [HR.out, Dc.right_nil _ _ (by simpa using H0.out)])) hb1
  · have h0' : 0 < s.size := by omega
    have he := isEmpty_of_pos h0'
    clear h0
    have hF : (1100 < s.size ∨ x < -100000 ∨ 100000 < x ∨ (s[0].toNat : Int) = 48 ∨ (s[s.size - 1].toNat : Int) = 48) → false = res := fun h => by rw [HR.out]; exact (Dc.right_bytes_false s x h0' h).symm
    have HF := Lib.hid hF; clear hF
    go_enter Tryz.func20, Tryz.ntmps20
    go_wp2_with (first
      | (go_at_call 44; refine (d_plain_any _ _).mono ?_; rintro e w1 ⟨rfl, hb2⟩; obtain ⟨hc, hf⟩ := bcell hb2)
      | (go_at_call 45; refine (Tryz.strings_HasSuffix _ _ _ hs).mono ?_; rintro e w' ⟨rfl, rfl⟩))
    all_goals go_ret
    · have hp : Dc.allDig s.data.toList = true := by assumption
      have hz : (s[0].toNat : Int) = 48 := by assumption
      exact RetB.of (congrArg Value.bool (HF.out (by omega))) (hb1.trans (hb2.mono (by simp)))
    · have hp : Dc.allDig s.data.toList = true := by assumption
      have hz : ¬ (s[0].toNat : Int) = 48 := by assumption
      refine RetB.of (congrArg Value.bool ?_) (hb1.trans (hb2.mono (by simp)))
      have hz' : ((s[0].toNat : Int) != 48) = true := by simpa using hz
      show (((s[0].toNat : Int) != 48) && !(Lib.hasSuffix s.data.toList [48])) = res
      rw [hz', Bool.true_and, Dc.hasSuffix_zero s h0']
      by_cases hl : (s[s.size - 1].toNat : Int) = 48
      · rw [decide_eq_true hl]; exact HF.out (by omega)
      · rw [decide_eq_false hl, HR.out, Dc.right_bytes_true s x h0' (by omega) (by omega) (by omega) hz hl hp]; rfl
    · have hp : ¬ Dc.allDig s.data.toList = true := by assumption
      refine RetB.of (congrArg Value.bool ?_) (hb1.trans (hb2.mono (by simp)))
      rw [HR.out, Dc.right_plain_false s x h0' (by simpa using hp)]
    all_goals exact RetB.of (congrArg Value.bool (HF.out (by omega))) hb1
theorem d_point_any (n : Bool) (s : ByteArray) (x : Int) (w : World) (hs : s.size ≤ 9223372036854775807) :
    Calls Tryz.prog 73 #[.agg #[.bool n, .string s, .int .i64 x]] w (RetB (.int .i64 (Dc.point s.data.toList x)) w) := by
  have hb1 : Below w.heap.size w (w.alloc (Obj.cells #[Value.bool n, Value.string s, Value.int IntKind.i64 x] 27)) := (Below.refl _ _).alloc (Nat.le_refl _) _
  obtain ⟨b, hr⟩ : ∃ b, b = Dc.right s.data.toList x := ⟨_, rfl⟩
  have hp := Dc.point_eq s x
  have HP := Lib.hid hp; clear hp
  have hd := d_right_any n s x (w.alloc (Obj.cells #[Value.bool n, Value.string s, Value.int IntKind.i64 x] 27)) hs
  rw [← hr] at hd
  have hx : b = true → -100000 ≤ x ∧ x ≤ 100000 ∧ s.size ≤ 1100 := fun h => by rw [hr] at h; exact ⟨(Dc.right_exp h).1, (Dc.right_exp h).2, by have := Dc.right_len h; simpa using this⟩
  cases b
  · have HD := Lib.hid hd; have HR := Lib.hid hr; clear hd hr
    go_enter Tryz.func73, Tryz.ntmps73
    go_wp2_with (first | (go_at_call 20; refine (HD.out).mono ?_; rintro e w1 ⟨rfl, hb2⟩; obtain ⟨hc, hf⟩ := bcell hb2))
    go_ret
    exact RetB.of (congrArg (Value.int .i64) (by rw [HP.out, ← HR.out]; rfl)) (hb1.trans (hb2.mono (by simp)))
  · have HD := Lib.hid hd; have HR := Lib.hid hr; clear hd hr
    have hx' := hx rfl; clear hx
    go_enter Tryz.func73, Tryz.ntmps73
    go_wp2_with (first | (go_at_call 20; refine (HD.out).mono ?_; rintro e w1 ⟨rfl, hb2⟩; obtain ⟨hc, hf⟩ := bcell hb2))
    go_ret
    exact RetB.of (congrArg (Value.int .i64) (by rw [HP.out, ← HR.out]; rfl)) (hb1.trans (hb2.mono (by simp)))
theorem r7_point_any (n : Bool) (s : ByteArray) (x : Int) (w : World) (hs : s.size ≤ 9223372036854775807) :
    Calls Tryz.prog 46 #[.agg #[.bool n, .string s, .int .i64 x]] w (RetB (.int .i64 (Dc.point s.data.toList x)) w) := by
  have hb1 : Below w.heap.size w (w.alloc (Obj.cells #[Value.bool n, Value.string s, Value.int IntKind.i64 x] 27)) := (Below.refl _ _).alloc (Nat.le_refl _) _
  obtain ⟨b, hr⟩ : ∃ b, b = Dc.right s.data.toList x := ⟨_, rfl⟩
  have hp := Dc.point_eq s x
  have HP := Lib.hid hp; clear hp
  have hd := r7_right_any n s x (w.alloc (Obj.cells #[Value.bool n, Value.string s, Value.int IntKind.i64 x] 27)) hs
  rw [← hr] at hd
  have hx : b = true → -100000 ≤ x ∧ x ≤ 100000 ∧ s.size ≤ 1100 := fun h => by rw [hr] at h; exact ⟨(Dc.right_exp h).1, (Dc.right_exp h).2, by have := Dc.right_len h; simpa using this⟩
  cases b
  · have HD := Lib.hid hd; have HR := Lib.hid hr; clear hd hr
    go_enter Tryz.func46, Tryz.ntmps46
    go_wp2_with (first | (go_at_call 59; refine (HD.out).mono ?_; rintro e w1 ⟨rfl, hb2⟩; obtain ⟨hc, hf⟩ := bcell hb2))
    go_ret
    exact RetB.of (congrArg (Value.int .i64) (by rw [HP.out, ← HR.out]; rfl)) (hb1.trans (hb2.mono (by simp)))
  · have HD := Lib.hid hd; have HR := Lib.hid hr; clear hd hr
    have hx' := hx rfl; clear hx
    go_enter Tryz.func46, Tryz.ntmps46
    go_wp2_with (first | (go_at_call 59; refine (HD.out).mono ?_; rintro e w1 ⟨rfl, hb2⟩; obtain ⟨hc, hf⟩ := bcell hb2))
    go_ret
    exact RetB.of (congrArg (Value.int .i64) (by rw [HP.out, ← HR.out]; rfl)) (hb1.trans (hb2.mono (by simp)))
end Go.Proofs.YtiglekomfgfilaaGreatDoor

namespace Go.Proofs.YtiglekomfgfilaaGreatDoor
set_option maxRecDepth 100000
set_option maxHeartbeats 400000
set_option linter.all false
open Go.RowKit
theorem trimL0 (s : ByteArray) (w : World) : Calls Tryz.prog 118 #[.string s, .string ⟨#[48]⟩] w (Ret0 (.string ⟨(Dc.lead s.data.toList).toArray⟩) w) :=
  (Tryz.strings_TrimLeft_one s 48 (by decide) w).mono fun _ _ h => ⟨h.1, h.2.symm⟩
theorem trimR0 (s : ByteArray) (l : Dc.Bs) (w : World) (hl : s.data.toList = Dc.lead l) (hs : l.length ≤ 1000000000) : Calls Tryz.prog 119 #[.string s, .string ⟨#[48]⟩] w (Ret0 (.string ⟨(Dc.core l).toArray⟩) w) :=
  (Tryz.strings_TrimRight_one s 48 (by decide) w (by have h1 := congrArg List.length hl; have h2 := Dc.lead_len l; rw [bs_length] at h1; omega)).mono fun _ _ h => ⟨by rw [h.1, hl]; rfl, h.2.symm⟩
theorem d_make_small (n : Bool) (s : ByteArray) (x : Int) (w : World) (hs : s.size ≤ 1000000000) (hx : -1099511627776 ≤ x ∧ x < 1099511627776) :
    Calls Tryz.prog 94 #[.bool n, .string s, .int .i64 x] w (RetB (Dc.mk n s.data.toList x).val w) := by
  have h1 : (Dc.lead s.data.toList).length ≤ 1000000000 := by have := Dc.lead_len s.data.toList; rw [bs_length] at this; omega
  have h2 := Dc.core_len s.data.toList
  have h3 : (⟨(Dc.core s.data.toList).toArray⟩ : ByteArray).size ≤ 9223372036854775807 := by rw [size_mk]; omega
  obtain ⟨hx1, hx2⟩ := hx
  go_enter Tryz.func94, Tryz.ntmps94
  go_wp2_with (first
    | (go_at_call 44; (with_reducible refine (d_plain_any _ _).mono ?_); rintro e w1 ⟨rfl, hb_w1⟩; have hB_w1 : Below (w).heap.size (w) w1 := Below.trans (by (repeat (first | exact Below.refl _ _ | assumption | refine Below.setCell ?_ (by first | omega | (simp <;> omega)) _ | refine Below.alloc ?_ (by first | omega | (simp <;> omega)) _ | refine Below.drew ?_ | refine below_drewN' ?_ _))) (hb_w1.mono (by first | omega | (simp <;> omega))); obtain ⟨hc_w1, hf_w1⟩ := bcell hb_w1; have hz_w1 := hb_w1.size; (try simp only [zD, zN, zA, zS] at hz_w1); have hk := own6 hb_w1 (w.heap.size) (by (try simp only [zD, zN, zA, zS]); omega); obtain ⟨hl0_w1, hm0_w1, hn0_w1, hq0_w1, hr0_w1, hg0_w1⟩ := hk)
    | (go_at_call 118; (with_reducible refine (trimL0 _ _).mono ?_); rintro e w' ⟨rfl, rfl⟩)
    | (go_at_call 119; (with_reducible refine (trimR0 _ s.data.toList _ (by simp) (by simpa using hs)).mono ?_); rintro e w' ⟨rfl, rfl⟩)
    | (go_at_call 20; (with_reducible refine (d_right_any _ ⟨(Dc.core s.data.toList).toArray⟩ _ _ h3).mono ?_); rintro e w3 ⟨rfl, hb_w3⟩; have hB_w3 : Below (w).heap.size (w) w3 := Below.trans (by (repeat (first | exact Below.refl _ _ | assumption | refine Below.setCell ?_ (by first | omega | (simp <;> omega)) _ | refine Below.alloc ?_ (by first | omega | (simp <;> omega)) _ | refine Below.drew ?_ | refine below_drewN' ?_ _))) (hb_w3.mono (by first | omega | (simp <;> omega))); obtain ⟨hc_w3, hf_w3⟩ := bcell hb_w3; have hz_w3 := hb_w3.size; (try simp only [zD, zN, zA, zS] at hz_w3); have hk := own6 hb_w3 (w.heap.size) (by (try simp only [zD, zN, zA, zS]); omega); obtain ⟨hl0_w3, hm0_w3, hn0_w3, hq0_w3, hr0_w3, hg0_w3⟩ := hk))
  · have h : (!Dc.allDig s.data.toList) = true := by assumption
    (refine bodyPost_ret (v := Dc.Res.val ⟨false, [], 0, 3⟩) (by (simp [results, Tryz.results94, go_sem, Dc.Res.val, hr0_w1, hl0_w1, hm0_w1, hn0_w1, hq0_w1]; done)) rfl (RetB.of (by rw [Dc.mk_bad (by simpa using h)]) (by (repeat (first | exact Below.refl _ _ | assumption | refine Below.setCell ?_ (by first | omega | (simp <;> omega)) _ | refine Below.alloc ?_ (by first | omega | (simp <;> omega)) _ | refine Below.drew ?_ | refine below_drewN' ?_ _)))))
  · have h0 : (!Dc.allDig s.data.toList) = false := by assumption
    have h : List.isEmpty (Dc.core s.data.toList) = true := by assumption
    have h' : Dc.core s.data.toList = [] := by simpa using h
    (refine bodyPost_ret (v := Dc.Res.val ⟨n, Dc.core s.data.toList, 0, 0⟩) (by (simp [results, Tryz.results94, go_sem, Dc.Res.val, hr0_w1, hl0_w1, hm0_w1, hn0_w1, hq0_w1]; done)) rfl (RetB.of (by rw [Dc.mk_zero (by simpa using h0) h', h']) (by (repeat (first | exact Below.refl _ _ | assumption | refine Below.setCell ?_ (by first | omega | (simp <;> omega)) _ | refine Below.alloc ?_ (by first | omega | (simp <;> omega)) _ | refine Below.drew ?_ | refine below_drewN' ?_ _)))))
  · have h0 : (!Dc.allDig s.data.toList) = false := by assumption
    have h : List.isEmpty (Dc.core s.data.toList) = false := by assumption
    have h2 : (!Dc.right (Dc.core s.data.toList) (x + (((Dc.lead s.data.toList).length : Int) - (Dc.core s.data.toList).length))) = true := by assumption
    (refine bodyPost_ret (v := Dc.Res.val ⟨false, [], 0, 2⟩) (by (simp [results, Tryz.results94, go_sem, Dc.Res.val, hr0_w1, hl0_w1, hm0_w1, hn0_w1, hq0_w1, hr0_w3, hl0_w3, hm0_w3, hn0_w3, hq0_w3]; done)) rfl (RetB.of (by rw [Dc.mk_over (by simpa using h0) (by simpa using h) (by rw [Dc.tz_int]; simpa using h2)]) (by (repeat (first | exact Below.refl _ _ | assumption | refine Below.setCell ?_ (by first | omega | (simp <;> omega)) _ | refine Below.alloc ?_ (by first | omega | (simp <;> omega)) _ | refine Below.drew ?_ | refine below_drewN' ?_ _)))))
  · have h0 : (!Dc.allDig s.data.toList) = false := by assumption
    have h : List.isEmpty (Dc.core s.data.toList) = false := by assumption
    have h2 : (!Dc.right (Dc.core s.data.toList) (x + (((Dc.lead s.data.toList).length : Int) - (Dc.core s.data.toList).length))) = false := by assumption
    (refine bodyPost_ret (v := Dc.Res.val ⟨n, Dc.core s.data.toList, x + (((Dc.lead s.data.toList).length : Int) - (Dc.core s.data.toList).length), 0⟩) (by (simp [results, Tryz.results94, go_sem, Dc.Res.val, hr0_w1, hl0_w1, hm0_w1, hn0_w1, hq0_w1, hr0_w3, hl0_w3, hm0_w3, hn0_w3, hq0_w3]; done)) rfl (RetB.of (by rw [Dc.mk_ok (by simpa using h0) (by simpa using h) (by rw [Dc.tz_int]; simpa using h2), Dc.tz_int]) (by (repeat (first | exact Below.refl _ _ | assumption | refine Below.setCell ?_ (by first | omega | (simp <;> omega)) _ | refine Below.alloc ?_ (by first | omega | (simp <;> omega)) _ | refine Below.drew ?_ | refine below_drewN' ?_ _)))))
theorem d_make_lo (n : Bool) (s : ByteArray) (x : Int) (w : World) (hs : s.size ≤ 1000000000) (hx : -9223372036854775808 ≤ x ∧ x ≤ 9223372036854775807) (hf : x < -1099511627776) :
    Calls Tryz.prog 94 #[.bool n, .string s, .int .i64 x] w (RetB (Dc.mk n s.data.toList x).val w) := by
  have h1 : (Dc.lead s.data.toList).length ≤ 1000000000 := by have := Dc.lead_len s.data.toList; rw [bs_length] at this; omega
  have h2 := Dc.core_len s.data.toList
  have h3 : (⟨(Dc.core s.data.toList).toArray⟩ : ByteArray).size ≤ 9223372036854775807 := by rw [size_mk]; omega
  obtain ⟨hx1, hx2⟩ := hx
  have hn : Dc.core s.data.toList ≠ [] → _ := fun hne => Dc.far_not (by simpa using hs) hne (.inl hf)
  have HN := Lib.hid hn; clear hn
  go_enter Tryz.func94, Tryz.ntmps94
  go_wp2_with (first
    | (go_at_call 44; (with_reducible refine (d_plain_any _ _).mono ?_); rintro e w1 ⟨rfl, hb_w1⟩; have hB_w1 : Below (w).heap.size (w) w1 := Below.trans (by (repeat (first | exact Below.refl _ _ | assumption | refine Below.setCell ?_ (by first | omega | (simp <;> omega)) _ | refine Below.alloc ?_ (by first | omega | (simp <;> omega)) _ | refine Below.drew ?_ | refine below_drewN' ?_ _))) (hb_w1.mono (by first | omega | (simp <;> omega))); obtain ⟨hc_w1, hf_w1⟩ := bcell hb_w1; have hz_w1 := hb_w1.size; (try simp only [zD, zN, zA, zS] at hz_w1); have hk := own6 hb_w1 (w.heap.size) (by (try simp only [zD, zN, zA, zS]); omega); obtain ⟨hl0_w1, hm0_w1, hn0_w1, hq0_w1, hr0_w1, hg0_w1⟩ := hk)
    | (go_at_call 118; (with_reducible refine (trimL0 _ _).mono ?_); rintro e w' ⟨rfl, rfl⟩)
    | (go_at_call 119; (with_reducible refine (trimR0 _ s.data.toList _ (by simp) (by simpa using hs)).mono ?_); rintro e w' ⟨rfl, rfl⟩)
    | (go_at_call 20; (with_reducible refine (d_right_any _ ⟨(Dc.core s.data.toList).toArray⟩ _ _ h3).mono ?_); rintro e w3 ⟨rfl, hb_w3⟩; have hB_w3 : Below (w).heap.size (w) w3 := Below.trans (by (repeat (first | exact Below.refl _ _ | assumption | refine Below.setCell ?_ (by first | omega | (simp <;> omega)) _ | refine Below.alloc ?_ (by first | omega | (simp <;> omega)) _ | refine Below.drew ?_ | refine below_drewN' ?_ _))) (hb_w3.mono (by first | omega | (simp <;> omega))); obtain ⟨hc_w3, hf_w3⟩ := bcell hb_w3; have hz_w3 := hb_w3.size; (try simp only [zD, zN, zA, zS] at hz_w3); have hk := own6 hb_w3 (w.heap.size) (by (try simp only [zD, zN, zA, zS]); omega); obtain ⟨hl0_w3, hm0_w3, hn0_w3, hq0_w3, hr0_w3, hg0_w3⟩ := hk))
  · have h : (!Dc.allDig s.data.toList) = true := by assumption
    (refine bodyPost_ret (v := Dc.Res.val ⟨false, [], 0, 3⟩) (by (simp [results, Tryz.results94, go_sem, Dc.Res.val, hr0_w1, hl0_w1, hm0_w1, hn0_w1, hq0_w1]; done)) rfl (RetB.of (by rw [Dc.mk_bad (by simpa using h)]) (by (repeat (first | exact Below.refl _ _ | assumption | refine Below.setCell ?_ (by first | omega | (simp <;> omega)) _ | refine Below.alloc ?_ (by first | omega | (simp <;> omega)) _ | refine Below.drew ?_ | refine below_drewN' ?_ _)))))
  · have h0 : (!Dc.allDig s.data.toList) = false := by assumption
    have h : List.isEmpty (Dc.core s.data.toList) = true := by assumption
    have h' : Dc.core s.data.toList = [] := by simpa using h
    (refine bodyPost_ret (v := Dc.Res.val ⟨n, Dc.core s.data.toList, 0, 0⟩) (by (simp [results, Tryz.results94, go_sem, Dc.Res.val, hr0_w1, hl0_w1, hm0_w1, hn0_w1, hq0_w1]; done)) rfl (RetB.of (by rw [Dc.mk_zero (by simpa using h0) h', h']) (by (repeat (first | exact Below.refl _ _ | assumption | refine Below.setCell ?_ (by first | omega | (simp <;> omega)) _ | refine Below.alloc ?_ (by first | omega | (simp <;> omega)) _ | refine Below.drew ?_ | refine below_drewN' ?_ _)))))
  · have h0 : (!Dc.allDig s.data.toList) = false := by assumption
    have h : List.isEmpty (Dc.core s.data.toList) = false := by assumption
    have hn := HN.out (by simpa using h)
    (refine bodyPost_ret (v := Dc.Res.val ⟨false, [], 0, 2⟩) (by (simp [results, Tryz.results94, go_sem, Dc.Res.val, hr0_w1, hl0_w1, hm0_w1, hn0_w1, hq0_w1, hr0_w3, hl0_w3, hm0_w3, hn0_w3, hq0_w3]; done)) rfl (RetB.of (by rw [Dc.mk_over (by simpa using h0) (by simpa using h) hn.1]) (by (repeat (first | exact Below.refl _ _ | assumption | refine Below.setCell ?_ (by first | omega | (simp <;> omega)) _ | refine Below.alloc ?_ (by first | omega | (simp <;> omega)) _ | refine Below.drew ?_ | refine below_drewN' ?_ _)))))
  · have h : List.isEmpty (Dc.core s.data.toList) = false := by assumption
    have h2 : (!Dc.right (Dc.core s.data.toList) x) = false := by assumption
    exact absurd (by simpa using h2) (HN.out (by simpa using h)).2
theorem d_make_hi (n : Bool) (s : ByteArray) (x : Int) (w : World) (hs : s.size ≤ 1000000000) (hx : -9223372036854775808 ≤ x ∧ x ≤ 9223372036854775807) (hf : 1099511627776 ≤ x) :
    Calls Tryz.prog 94 #[.bool n, .string s, .int .i64 x] w (RetB (Dc.mk n s.data.toList x).val w) := by
  have h1 : (Dc.lead s.data.toList).length ≤ 1000000000 := by have := Dc.lead_len s.data.toList; rw [bs_length] at this; omega
  have h2 := Dc.core_len s.data.toList
  have h3 : (⟨(Dc.core s.data.toList).toArray⟩ : ByteArray).size ≤ 9223372036854775807 := by rw [size_mk]; omega
  obtain ⟨hx1, hx2⟩ := hx
  have hn : Dc.core s.data.toList ≠ [] → _ := fun hne => Dc.far_not (by simpa using hs) hne (.inr hf)
  have HN := Lib.hid hn; clear hn
  go_enter Tryz.func94, Tryz.ntmps94
  go_wp2_with (first
    | (go_at_call 44; (with_reducible refine (d_plain_any _ _).mono ?_); rintro e w1 ⟨rfl, hb_w1⟩; have hB_w1 : Below (w).heap.size (w) w1 := Below.trans (by (repeat (first | exact Below.refl _ _ | assumption | refine Below.setCell ?_ (by first | omega | (simp <;> omega)) _ | refine Below.alloc ?_ (by first | omega | (simp <;> omega)) _ | refine Below.drew ?_ | refine below_drewN' ?_ _))) (hb_w1.mono (by first | omega | (simp <;> omega))); obtain ⟨hc_w1, hf_w1⟩ := bcell hb_w1; have hz_w1 := hb_w1.size; (try simp only [zD, zN, zA, zS] at hz_w1); have hk := own6 hb_w1 (w.heap.size) (by (try simp only [zD, zN, zA, zS]); omega); obtain ⟨hl0_w1, hm0_w1, hn0_w1, hq0_w1, hr0_w1, hg0_w1⟩ := hk)
    | (go_at_call 118; (with_reducible refine (trimL0 _ _).mono ?_); rintro e w' ⟨rfl, rfl⟩)
    | (go_at_call 119; (with_reducible refine (trimR0 _ s.data.toList _ (by simp) (by simpa using hs)).mono ?_); rintro e w' ⟨rfl, rfl⟩)
    | (go_at_call 20; (with_reducible refine (d_right_any _ ⟨(Dc.core s.data.toList).toArray⟩ _ _ h3).mono ?_); rintro e w3 ⟨rfl, hb_w3⟩; have hB_w3 : Below (w).heap.size (w) w3 := Below.trans (by (repeat (first | exact Below.refl _ _ | assumption | refine Below.setCell ?_ (by first | omega | (simp <;> omega)) _ | refine Below.alloc ?_ (by first | omega | (simp <;> omega)) _ | refine Below.drew ?_ | refine below_drewN' ?_ _))) (hb_w3.mono (by first | omega | (simp <;> omega))); obtain ⟨hc_w3, hf_w3⟩ := bcell hb_w3; have hz_w3 := hb_w3.size; (try simp only [zD, zN, zA, zS] at hz_w3); have hk := own6 hb_w3 (w.heap.size) (by (try simp only [zD, zN, zA, zS]); omega); obtain ⟨hl0_w3, hm0_w3, hn0_w3, hq0_w3, hr0_w3, hg0_w3⟩ := hk))
  · have h : (!Dc.allDig s.data.toList) = true := by assumption
    (refine bodyPost_ret (v := Dc.Res.val ⟨false, [], 0, 3⟩) (by (simp [results, Tryz.results94, go_sem, Dc.Res.val, hr0_w1, hl0_w1, hm0_w1, hn0_w1, hq0_w1]; done)) rfl (RetB.of (by rw [Dc.mk_bad (by simpa using h)]) (by (repeat (first | exact Below.refl _ _ | assumption | refine Below.setCell ?_ (by first | omega | (simp <;> omega)) _ | refine Below.alloc ?_ (by first | omega | (simp <;> omega)) _ | refine Below.drew ?_ | refine below_drewN' ?_ _)))))
  · have h0 : (!Dc.allDig s.data.toList) = false := by assumption
    have h : List.isEmpty (Dc.core s.data.toList) = true := by assumption
    have h' : Dc.core s.data.toList = [] := by simpa using h
    (refine bodyPost_ret (v := Dc.Res.val ⟨n, Dc.core s.data.toList, 0, 0⟩) (by (simp [results, Tryz.results94, go_sem, Dc.Res.val, hr0_w1, hl0_w1, hm0_w1, hn0_w1, hq0_w1]; done)) rfl (RetB.of (by rw [Dc.mk_zero (by simpa using h0) h', h']) (by (repeat (first | exact Below.refl _ _ | assumption | refine Below.setCell ?_ (by first | omega | (simp <;> omega)) _ | refine Below.alloc ?_ (by first | omega | (simp <;> omega)) _ | refine Below.drew ?_ | refine below_drewN' ?_ _)))))
  · have h0 : (!Dc.allDig s.data.toList) = false := by assumption
    have h : List.isEmpty (Dc.core s.data.toList) = false := by assumption
    have hn := HN.out (by simpa using h)
    (refine bodyPost_ret (v := Dc.Res.val ⟨false, [], 0, 2⟩) (by (simp [results, Tryz.results94, go_sem, Dc.Res.val, hr0_w1, hl0_w1, hm0_w1, hn0_w1, hq0_w1, hr0_w3, hl0_w3, hm0_w3, hn0_w3, hq0_w3]; done)) rfl (RetB.of (by rw [Dc.mk_over (by simpa using h0) (by simpa using h) hn.1]) (by (repeat (first | exact Below.refl _ _ | assumption | refine Below.setCell ?_ (by first | omega | (simp <;> omega)) _ | refine Below.alloc ?_ (by first | omega | (simp <;> omega)) _ | refine Below.drew ?_ | refine below_drewN' ?_ _)))))
  · have h : List.isEmpty (Dc.core s.data.toList) = false := by assumption
    have h2 : (!Dc.right (Dc.core s.data.toList) x) = false := by assumption
    exact absurd (by simpa using h2) (HN.out (by simpa using h)).2
theorem d_make_any (n : Bool) (s : ByteArray) (x : Int) (w : World) (hs : s.size ≤ 1000000000) (hx : -9223372036854775808 ≤ x ∧ x ≤ 9223372036854775807) :
    Calls Tryz.prog 94 #[.bool n, .string s, .int .i64 x] w (RetB (Dc.mk n s.data.toList x).val w) := by
  by_cases h : x < -1099511627776
  · exact d_make_lo n s x w hs hx h
  · by_cases h' : x < 1099511627776
    · exact d_make_small n s x w hs ⟨by omega, h'⟩
    · exact d_make_hi n s x w hs hx (by omega)
end Go.Proofs.YtiglekomfgfilaaGreatDoor
