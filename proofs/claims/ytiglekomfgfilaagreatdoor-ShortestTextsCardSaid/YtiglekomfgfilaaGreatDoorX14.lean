/- Plain Lean: lists of limbs of a middling size: powers of ten, shifts, quotients. -/
import Derived.Test.YtiglekomfgfilaaGreatDoorX1
import Derived.Test.YtiglekomfgfilaaGreatDoorX5
import Derived.Test.YtiglekomfgfilaaGreatDoorX8
import Derived.Test.YtiglekomfgfilaaGreatDoorX13
import Derived.Test.YtiglekomfgfilaaGreatDoorX2
import Derived.Test.YtiglekomfgfilaaGreatDoorX9
import Derived.Test.YtiglekomfgfilaaGreatDoorX11
import Derived.Test.YtiglekomfgfilaaGreatDoorX6
namespace Go.Proofs.YtiglekomfgfilaaGreatDoor.Fl
set_option linter.all false
open Go
def n256 : Nat := 256
def Mid (n : Nat) : Prop := (Na.limbs n).length ≤ 256
theorem mid_bits {n k : Nat} (h : n < 2 ^ (32 * k)) (hk : k ≤ 256) : Mid n := by
  rw [Nat.pow_mul, show (2 : Nat) ^ 32 = Na.B from rfl] at h
  exact Nat.le_trans (Na.limbs_len_le _ _ h) hk
theorem mid_pow {n k : Nat} (h : n < 2 ^ k) (hk : k ≤ 8192) : Mid n :=
  mid_bits (k := n256) (Nat.lt_of_lt_of_le h (Nat.pow_le_pow_right (by decide) (by unfold n256; omega))) (by unfold n256; omega)
theorem mid_bl {n : Nat} (h : Na.bitLen n ≤ 8192) : Mid n := by
  by_cases h0 : n = 0
  · subst h0; unfold Mid; rw [Na.limbs_zero]; simp
  · exact mid_pow (bitLen_ge h0).2.1 h
theorem mid_le {n m : Nat} (h : n ≤ m) (hm : Mid m) : Mid n := by
  unfold Mid at hm ⊢
  exact (Na.limbs_len_iff _ _).2 (Nat.lt_of_le_of_lt h ((Na.limbs_len_iff _ _).1 hm))
theorem mid_big {n : Nat} (h : Mid n) : Na.big (Na.limbs n) = false := by
  rw [Na.big, Na.rt_limbs]; exact decide_eq_false (by unfold Mid at h; omega)
theorem ten_two (j : Nat) : 10 ^ j ≤ 2 ^ (4 * j) := by
  rw [Nat.pow_mul]; exact Nat.pow_le_pow_left (by decide) _
theorem bitLen_lt {n k : Nat} (h : n < 2 ^ k) : Na.bitLen n ≤ k := Na.bitLen_le' h
theorem quot_small {N s X k : Nat} (hN : N < 10 ^ s) (h : s ≤ X + n310) : N * 2 ^ k / 10 ^ X < 2 ^ (4 * n310 + k) := by
  rw [Nat.div_lt_iff_lt_mul (Nat.pow_pos (by decide))]
  have h1 : N * 2 ^ k < 10 ^ (X + n310) * 2 ^ k := Nat.mul_lt_mul_of_pos_right (Nat.lt_of_lt_of_le hN (Nat.pow_le_pow_right (by decide) h)) (Nat.pow_pos (by decide))
  have h2 : 10 ^ n310 * (2 ^ k * 10 ^ X) ≤ 2 ^ (4 * n310) * (2 ^ k * 10 ^ X) := Nat.mul_le_mul_right _ (ten_two n310)
  rw [Nat.pow_add, Nat.mul_comm (10 ^ X), Nat.mul_assoc, Nat.mul_comm (10 ^ X)] at h1
  rw [Nat.pow_add, Nat.mul_assoc]
  exact Nat.lt_of_lt_of_le h1 h2
theorem ten_len (j : Nat) : Na.bitLen (10 ^ j) ≤ 4 * j + 1 :=
  bitLen_lt (Nat.lt_of_le_of_lt (ten_two j) (Nat.pow_lt_pow_right (by decide) (by omega)))
theorem ten_mid {j : Nat} (hj : j ≤ 2000) : Mid (10 ^ j) := mid_bl (by have := ten_len j; omega)
theorem pow_ten {j : Nat} (hj : j ≤ 2000) : Na.pow 10 (j : Int) = (Na.limbs (10 ^ j), 0) := by
  have h := ten_mid hj
  rw [Na.pow, if_neg (by omega), if_neg (by omega), Int.toNat_natCast, show (10 : Int).toNat = 10 from rfl, Na.fits, if_neg (by unfold Mid at h; omega)]
theorem shl_mid {n k : Nat} (h0 : n ≠ 0) (h : Na.bitLen n + k ≤ 8192) : Na.shl (Na.limbs n) (k : Int) = (Na.limbs (n * 2 ^ k), 0) := by
  rw [Na.shl, if_neg (by omega), mid_big (mid_bl (by omega)), if_neg (by simp), Na.val_limbs, if_neg h0, if_neg (by omega), Int.toNat_natCast]
theorem shr_mid {n k : Nat} (h : Mid n) : Na.shr (Na.limbs n) (k : Int) = (Na.limbs (n / 2 ^ k), decide (n % 2 ^ k ≠ 0), 0) := by
  rw [Na.shr, if_neg (by omega), mid_big h, if_neg (by simp), Na.val_limbs, Int.toNat_natCast]
theorem div_mid {n m : Nat} (hn : Mid n) (hm : Mid m) (h0 : m ≠ 0) : Na.divMod (Na.limbs n) (Na.limbs m) = (Na.limbs (n / m), Na.limbs (n % m), 0) := by
  rw [Na.divMod, mid_big hn, mid_big hm, if_neg (by simp), Na.val_limbs, Na.val_limbs, if_neg h0]
theorem mul_mid {n m : Nat} (hn : Mid n) (hm : Mid m) (h : Mid (n * m)) : Na.mul (Na.limbs n) (Na.limbs m) = (Na.limbs (n * m), 0) := by
  rw [Na.mul, mid_big hn, mid_big hm, if_neg (by simp), Na.val_limbs, Na.val_limbs, Na.fits, if_neg (by unfold Mid at h; omega)]
theorem bitLen_mul_pow {n k : Nat} (h0 : n ≠ 0) : n * 2 ^ k < 2 ^ (Na.bitLen n + k) := by
  rw [Nat.pow_add]; exact Nat.mul_lt_mul_of_pos_right (bitLen_ge h0).2.1 (Nat.pow_pos (by decide))
theorem ten_ne (j : Nat) : 10 ^ j ≠ 0 := Nat.ne_of_gt (Nat.pow_pos (by decide))
theorem pw_neg {j : Nat} (hj : 0 < j) : pwE (-(j : Int)) = -((Na.bitLen (10 ^ j) : Int) + 127) ∧ pwP (-(j : Int)) = 1 * 2 ^ (Na.bitLen (10 ^ j) + 127) / 10 ^ j ∧ pwA (-(j : Int)) = false := by
  have e : (-(-(j : Int))).toNat = j := by omega
  refine ⟨?_, ?_, ?_⟩
  · rw [pwE, if_pos (by omega), e]
  · rw [pwP, if_pos (by omega), e, Nat.one_mul]
  · rw [pwA, if_pos (by omega)]
theorem pw_pos {j : Nat} {e : Int} (he : e = (Na.bitLen (10 ^ j) : Int) - 128) : pwE (j : Int) = e ∧ (e ≤ 0 → pwP (j : Int) = 10 ^ j * 2 ^ (-e).toNat ∧ pwA (j : Int) = true) ∧
    (0 < e → pwP (j : Int) = 10 ^ j / 2 ^ e.toNat ∧ pwA (j : Int) = !decide (10 ^ j % 2 ^ e.toNat ≠ 0)) := by
  have e1 : pwE (j : Int) = e := by rw [pwE, if_neg (by omega), Int.toNat_natCast, he]
  refine ⟨e1, fun h => ⟨?_, ?_⟩, fun h => ⟨?_, ?_⟩⟩
  · rw [pwP, if_neg (by omega), e1, if_pos h, Int.toNat_natCast]
  · rw [pwA, if_neg (by omega), e1, if_pos h]
  · rw [pwP, if_neg (by omega), e1, if_neg (by omega), Int.toNat_natCast]
  · rw [pwA, if_neg (by omega), e1, if_neg (by omega), Int.toNat_natCast]
end Go.Proofs.YtiglekomfgfilaaGreatDoor.Fl

namespace Go.Proofs.YtiglekomfgfilaaGreatDoor
set_option maxRecDepth 100000
set_option maxHeartbeats 400000
set_option linter.all false
open Go.RowKit
theorem r7_digit_any (c : UInt8) (w : World) : Calls Tryz.prog 61 #[.int .u8 c.toNat] w (Ret0 (.bool (Dc.isDig c)) w) := by
  have h1 : (decide (48 ≤ (c.toNat : Int)) && decide ((c.toNat : Int) ≤ 57)) = Dc.isDig c := rfl
  have H1 := Lib.hid h1; clear h1
  by_cases h : 48 ≤ (c.toNat : Int)
  · go_enter Tryz.func61, Tryz.ntmps61
    go_wp2
    go_ret
    exact Ret0.of (by rw [← H1.out]; simp [h])
  · go_enter Tryz.func61, Tryz.ntmps61
    go_wp2
    go_ret
    exact Ret0.of (by rw [← H1.out, decide_eq_false (by omega)]; rfl)
theorem r7_right_any (n : Bool) (s : ByteArray) (x : Int) (w : World) (hs : s.size ≤ 9223372036854775807) :
    Calls Tryz.prog 59 #[.agg #[.bool n, .string s, .int .i64 x]] w (RetB (.bool (Dc.right s.data.toList x)) w) := by
  have hb1 : Below w.heap.size w (w.alloc (Obj.cells #[Value.bool n, Value.string s, Value.int IntKind.i64 x] 27)) := (Below.refl _ _).alloc (Nat.le_refl _) _
  by_cases h0 : s.size = 0
  · have H0 := Lib.hid h0
    replace h0 : s.size ≤ 0 := by omega
    go_enter Tryz.func59, Tryz.ntmps59
    go_wp2_with fail
    go_ret
    exact RetB.of (congrArg Value.bool (Dc.right_nil _ _ (by simpa using H0.out)).symm) hb1
  · replace h0 : 0 < s.size := by omega
    by_cases hall : s.size ≤ 1100 ∧ -100000 ≤ x ∧ x ≤ 100000 ∧ ¬ (s[0].toNat : Int) = 48 ∧ ¬ (s[s.size - 1].toNat : Int) = 48
    · obtain ⟨n2, n3, n4, n0, n1⟩ := hall
      have b0 : ((s[0].toNat : Int) == 48) = false := by simpa using n0
      have b1 : ((s[s.size - 1].toNat : Int) == 48) = false := by simpa using n1
      go_enter Tryz.func59, Tryz.ntmps59
      go_wp2_with fail
      go_loop [4] (fun i => ∃ k : Nat, k ≤ s.size ∧ i = .int .i64 k ∧ (s.data.toList.take k).all Dc.isDig = true) (fun i => s.size - (intOf i).toNat)
      case atStart => exact ⟨0, Nat.zero_le _, rfl, rfl⟩
      case round =>
        obtain ⟨k, hk, rfl, hall⟩ := hrel
        have HA := Lib.hid hall; clear hall
        by_cases hlt : k < s.size
        · have hsn := Lib.hid (all_take_snoc s k hlt Dc.isDig)
          go_wp2_with (go_at_call 61; refine (r7_digit_any _ _).mono ?_; rintro e w' ⟨rfl, rfl⟩)
          · have hd : (!Dc.isDig s[k]) = true := by assumption
            go_ret
            exact RetB.of (congrArg Value.bool (Dc.right_bytes_nodig s x k hlt (by simpa using hd)).symm) hb1
          · have hd : (!Dc.isDig s[k]) = false := by assumption
            go_round
            case rel => exact ⟨k + 1, by omega, by go_num, by rw [hsn.out, HA.out]; simpa using hd⟩
            case measure => simp [intOf]; omega
        · go_wp2
          go_ret
          exact RetB.of (congrArg Value.bool (Dc.right_bytes_true s x h0 n2 n3 n4 n0 n1 (by have := HA.out; rwa [List.take_of_length_le (by simp; omega)] at this)).symm) hb1
    · have HN := Lib.hid hall; clear hall
      go_enter Tryz.func59, Tryz.ntmps59
      go_wp2_with fail
      all_goals first
        | (go_ret; exact RetB.of (congrArg Value.bool (Dc.right_bytes_false s x h0 (by first | omega | (simp only [beq_iff_eq] at *; omega))).symm) hb1)
        | (exfalso; have := HN.out; simp only [beq_eq_false_iff_ne, ne_eq] at *; omega)
end Go.Proofs.YtiglekomfgfilaaGreatDoor

namespace Go.Proofs.YtiglekomfgfilaaGreatDoor
set_option maxRecDepth 100000
set_option maxHeartbeats 400000
set_option linter.all false
open Go.RowKit
theorem below_iter (w : World) (s : ByteArray) (pos : Nat) : Below w.heap.size w (w.iter s pos) := (Below.refl _ _).alloc (Nat.le_refl _) _
theorem all_take_snoc_false (s : ByteArray) (k : Nat) (h : k < s.size) (p : UInt8 → Bool) (hp : p s[k] = false) : s.data.toList.all p = false := by
  rw [List.all_eq_false]
  exact ⟨s[k], List.mem_of_getElem? (bs_getElem? s k h), by simp [hp]⟩
theorem d_plain_any (s : ByteArray) (w : World) :
    Calls Tryz.prog 44 #[.string s] w (RetB (.bool (Dc.allDig s.data.toList)) w) := by
  obtain ⟨res, hres⟩ : ∃ b, b = Dc.allDig s.data.toList := ⟨_, rfl⟩
  rw [← hres]; have HR := Lib.hid hres; clear hres
  go_enter Tryz.func44, Tryz.ntmps44
  go_wp2_with fail
  go_loopw [] (fun wr => ∃ pos : Nat, pos ≤ s.size ∧ wr = w.iter s pos ∧ (s.data.toList.take pos).all Dc.isDig = true) (fun wr => s.size - wr.iterPos w.heap.size)
  case atStart => exact ⟨0, Nat.zero_le _, rfl, rfl⟩
  case round =>
    obtain ⟨pos, hpos, rfl, hall⟩ := hrel
    have HA := Lib.hid hall; clear hall
    by_cases hp : pos < s.size
    · have hsn := Lib.hid (all_take_snoc s pos hp Dc.isDig)
      have hno : Dc.isDig s[pos] = false → false = res := fun h => by rw [HR.out]; exact (all_take_snoc_false s pos hp _ h).symm
      have HNO := Lib.hid hno; clear hno
      by_cases ha : (s[pos]'hp).toNat < 128
      · have hnx : ∀ ty, (Instr.next (.pointer (some ⟨w.heap.size, 0, none⟩)) true ty).run Tryz.prog (w.iter s pos) = _ := fun ty => run_next_ascii w s pos ty hp ha
        go_wp2
        · go_ret
          exact RetB.of (congrArg Value.bool (HNO.out (by simp [Dc.isDig]; omega))) (below_iter _ _ _)
        · go_roundw
          case rel => exact ⟨pos + 1, by omega, rfl, by rw [hsn.out, HA.out]; simp [Dc.isDig]; omega⟩
          case measure => simp; omega
        · go_ret
          exact RetB.of (congrArg Value.bool (HNO.out (by simp [Dc.isDig]; omega))) (below_iter _ _ _)
      · have hd := decode_high s pos hp (by omega)
        have hnx : ∀ ty, (Instr.next (.pointer (some ⟨w.heap.size, 0, none⟩)) true ty).run Tryz.prog (w.iter s pos) = _ := fun ty => run_next_any w s pos ty hp
        go_wp2
        all_goals go_ret
        all_goals exact RetB.of (congrArg Value.bool (HNO.out (by simp [Dc.isDig]; omega))) (below_iter _ _ _)
    · have hnx : ∀ ty, (Instr.next (.pointer (some ⟨w.heap.size, 0, none⟩)) true ty).run Tryz.prog (w.iter s pos) = _ := fun ty => run_next_end w s pos ty hp
      go_wp2
      go_ret
      exact RetB.of (congrArg Value.bool (by have h := HA.out; rw [List.take_of_length_le (by simp; omega)] at h; rw [HR.out]; exact h.symm)) (below_iter _ _ _)
theorem d_right_any (n : Bool) (s : ByteArray) (x : Int) (w : World) (hs : s.size ≤ 9223372036854775807) :
    Calls Tryz.prog 20 #[.agg #[.bool n, .string s, .int .i64 x]] w (RetB (.bool (Dc.right s.data.toList x)) w) := by
  obtain ⟨res, hres⟩ : ∃ b, b = Dc.right s.data.toList x := ⟨_, rfl⟩
  rw [← hres]; have HR := Lib.hid hres; clear hres
  have hb1 : Below w.heap.size w (w.alloc (Obj.cells #[Value.bool n, Value.string s, Value.int IntKind.i64 x] 27)) := (Below.refl _ _).alloc (Nat.le_refl _) _
  by_cases h0 : s.size = 0
  · have he := isEmpty_of_zero h0
    have H0 := Lib.hid h0; clear h0
    go_enter Tryz.func20, Tryz.ntmps20
    go_wp2_with fail
    go_ret
    exact RetB.of (congrArg Value.bool (by rw [HR.out, Dc.right_nil _ _ (by simpa using H0.out)])) hb1
  · have h0' : 0 < s.size := by omega
    have he := isEmpty_of_pos h0'
    clear h0
    have hF : (1100 < s.size ∨ x < -100000 ∨ 100000 < x ∨ (s[0].toNat : Int) = 48 ∨ (s[s.size - 1].toNat : Int) = 48) → false = res := fun h => by rw [HR.out]; exact (Dc.right_bytes_false s x h0' h).symm
    have HF := Lib.hid hF; clear hF
    go_enter Tryz.func20, Tryz.ntmps20
    go_wp2_with (first
      | (go_at_call 44; refine (d_plain_any _ _).mono ?_; rintro e w1 ⟨rfl, hb2⟩; obtain ⟨hc, hf⟩ := bcell hb2)
      | (go_at_call 45; refine (Tryz.strings_HasSuffix _ _ _ hs).mono ?_; rintro e w' ⟨rfl, rfl⟩))
    all_goals go_ret
    · have hp : Dc.allDig s.data.toList = true := by assumption
      have hz : (s[0].toNat : Int) = 48 := by assumption
      exact RetB.of (congrArg Value.bool (HF.out (by omega))) (hb1.trans (hb2.mono (by simp)))
    · have hp : Dc.allDig s.data.toList = true := by assumption
      have hz : ¬ (s[0].toNat : Int) = 48 := by assumption
      refine RetB.of (congrArg Value.bool ?_) (hb1.trans (hb2.mono (by simp)))
      have hz' : ((s[0].toNat : Int) != 48) = true := by simpa using hz
      show (((s[0].toNat : Int) != 48) && !(Lib.hasSuffix s.data.toList [48])) = res
      rw [hz', Bool.true_and, Dc.hasSuffix_zero s h0']
      by_cases hl : (s[s.size - 1].toNat : Int) = 48
      · rw [decide_eq_true hl]; exact HF.out (by omega)
      · rw [decide_eq_false hl, HR.out, Dc.right_bytes_true s x h0' (by omega) (by omega) (by omega) hz hl hp]; rfl
    · have hp : ¬ Dc.allDig s.data.toList = true := by assumption
      refine RetB.of (congrArg Value.bool ?_) (hb1.trans (hb2.mono (by simp)))
      rw [HR.out, Dc.right_plain_false s x h0' (by simpa using hp)]
    all_goals exact RetB.of (congrArg Value.bool (HF.out (by omega))) hb1
theorem d_point_any (n : Bool) (s : ByteArray) (x : Int) (w : World) (hs : s.size ≤ 9223372036854775807) :
    Calls Tryz.prog 73 #[.agg #[.bool n, .string s, .int .i64 x]] w (RetB (.int .i64 (Dc.point s.data.toList x)) w) := by
  have hb1 : Below w.heap.size w (w.alloc (Obj.cells #[Value.bool n, Value.string s, Value.int IntKind.i64 x] 27)) := (Below.refl _ _).alloc (Nat.le_refl _) _
  obtain ⟨b, hr⟩ : ∃ b, b = Dc.right s.data.toList x := ⟨_, rfl⟩
  have hp := Dc.point_eq s x
  have HP := Lib.hid hp; clear hp
  have hd := d_right_any n s x (w.alloc (Obj.cells #[Value.bool n, Value.string s, Value.int IntKind.i64 x] 27)) hs
  rw [← hr] at hd
  have hx : b = true → -100000 ≤ x ∧ x ≤ 100000 ∧ s.size ≤ 1100 := fun h => by rw [hr] at h; exact ⟨(Dc.right_exp h).1, (Dc.right_exp h).2, by have := Dc.right_len h; simpa using this⟩
  cases b
  · have HD := Lib.hid hd; have HR := Lib.hid hr; clear hd hr
    go_enter Tryz.func73, Tryz.ntmps73
    go_wp2_with (first | (go_at_call 20; refine (HD.out).mono ?_; rintro e w1 ⟨rfl, hb2⟩; obtain ⟨hc, hf⟩ := bcell hb2))
    go_ret
    exact RetB.of (congrArg (Value.int .i64) (by rw [HP.out, ← HR.out]; rfl)) (hb1.trans (hb2.mono (by simp)))
  · have HD := Lib.hid hd; have HR := Lib.hid hr; clear hd hr
    have hx' := hx rfl; clear hx
    go_enter Tryz.func73, Tryz.ntmps73
    go_wp2_with (first | (go_at_call 20; refine (HD.out).mono ?_; rintro e w1 ⟨rfl, hb2⟩; obtain ⟨hc, hf⟩ := bcell hb2))
    go_ret
    exact RetB.of (congrArg (Value.int .i64) (by rw [HP.out, ← HR.out]; rfl)) (hb1.trans (hb2.mono (by simp)))
theorem r7_point_any (n : Bool) (s : ByteArray) (x : Int) (w : World) (hs : s.size ≤ 9223372036854775807) :
    Calls Tryz.prog 46 #[.agg #[.bool n, .string s, .int .i64 x]] w (RetB (.int .i64 (Dc.point s.data.toList x)) w) := by
  have hb1 : Below w.heap.size w (w.alloc (Obj.cells #[Value.bool n, Value.string s, Value.int IntKind.i64 x] 27)) := (Below.refl _ _).alloc (Nat.le_refl _) _
  obtain ⟨b, hr⟩ : ∃ b, b = Dc.right s.data.toList x := ⟨_, rfl⟩
  have hp := Dc.point_eq s x
  have HP := Lib.hid hp; clear hp
  have hd := r7_right_any n s x (w.alloc (Obj.cells #[Value.bool n, Value.string s, Value.int IntKind.i64 x] 27)) hs
  rw [← hr] at hd
  have hx : b = true → -100000 ≤ x ∧ x ≤ 100000 ∧ s.size ≤ 1100 := fun h => by rw [hr] at h; exact ⟨(Dc.right_exp h).1, (Dc.right_exp h).2, by have := Dc.right_len h; simpa using this⟩
  cases b
  · have HD := Lib.hid hd; have HR := Lib.hid hr; clear hd hr
    go_enter Tryz.func46, Tryz.ntmps46
    go_wp2_with (first | (go_at_call 59; refine (HD.out).mono ?_; rintro e w1 ⟨rfl, hb2⟩; obtain ⟨hc, hf⟩ := bcell hb2))
    go_ret
    exact RetB.of (congrArg (Value.int .i64) (by rw [HP.out, ← HR.out]; rfl)) (hb1.trans (hb2.mono (by simp)))
  · have HD := Lib.hid hd; have HR := Lib.hid hr; clear hd hr
    have hx' := hx rfl; clear hx
    go_enter Tryz.func46, Tryz.ntmps46
    go_wp2_with (first | (go_at_call 59; refine (HD.out).mono ?_; rintro e w1 ⟨rfl, hb2⟩; obtain ⟨hc, hf⟩ := bcell hb2))
    go_ret
    exact RetB.of (congrArg (Value.int .i64) (by rw [HP.out, ← HR.out]; rfl)) (hb1.trans (hb2.mono (by simp)))
end Go.Proofs.YtiglekomfgfilaaGreatDoor

namespace Go.Proofs.YtiglekomfgfilaaGreatDoor
set_option maxRecDepth 100000
set_option maxHeartbeats 400000
set_option linter.all false
open Go.RowKit
theorem trimL0 (s : ByteArray) (w : World) : Calls Tryz.prog 118 #[.string s, .string ⟨#[48]⟩] w (Ret0 (.string ⟨(Dc.lead s.data.toList).toArray⟩) w) :=
  (Tryz.strings_TrimLeft_one s 48 (by decide) w).mono fun _ _ h => ⟨h.1, h.2.symm⟩
theorem trimR0 (s : ByteArray) (l : Dc.Bs) (w : World) (hl : s.data.toList = Dc.lead l) (hs : l.length ≤ 1000000000) : Calls Tryz.prog 119 #[.string s, .string ⟨#[48]⟩] w (Ret0 (.string ⟨(Dc.core l).toArray⟩) w) :=
  (Tryz.strings_TrimRight_one s 48 (by decide) w (by have h1 := congrArg List.length hl; have h2 := Dc.lead_len l; rw [bs_length] at h1; omega)).mono fun _ _ h => ⟨by rw [h.1, hl]; rfl, h.2.symm⟩
theorem d_make_small (n : Bool) (s : ByteArray) (x : Int) (w : World) (hs : s.size ≤ 1000000000) (hx : -1099511627776 ≤ x ∧ x < 1099511627776) :
    Calls Tryz.prog 94 #[.bool n, .string s, .int .i64 x] w (RetB (Dc.mk n s.data.toList x).val w) := by
  have h1 : (Dc.lead s.data.toList).length ≤ 1000000000 := by have := Dc.lead_len s.data.toList; rw [bs_length] at this; omega
  have h2 := Dc.core_len s.data.toList
  have h3 : (⟨(Dc.core s.data.toList).toArray⟩ : ByteArray).size ≤ 9223372036854775807 := by rw [size_mk]; omega
  obtain ⟨hx1, hx2⟩ := hx
  go_enter Tryz.func94, Tryz.ntmps94
  go_wp2_with (first
    | (go_at_call 44; (with_reducible refine (d_plain_any _ _).mono ?_); rintro e w1 ⟨rfl, hb_w1⟩; have hB_w1 : Below (w).heap.size (w) w1 := Below.trans (by (repeat (first | exact Below.refl _ _ | assumption | refine Below.setCell ?_ (by first | omega | (simp <;> omega)) _ | refine Below.alloc ?_ (by first | omega | (simp <;> omega)) _ | refine Below.drew ?_ | refine below_drewN' ?_ _))) (hb_w1.mono (by first | omega | (simp <;> omega))); obtain ⟨hc_w1, hf_w1⟩ := bcell hb_w1; have hz_w1 := hb_w1.size; (try simp only [zD, zN, zA, zS] at hz_w1); have hk := own6 hb_w1 (w.heap.size) (by (try simp only [zD, zN, zA, zS]); omega); obtain ⟨hl0_w1, hm0_w1, hn0_w1, hq0_w1, hr0_w1, hg0_w1⟩ := hk)
    | (go_at_call 118; (with_reducible refine (trimL0 _ _).mono ?_); rintro e w' ⟨rfl, rfl⟩)
    | (go_at_call 119; (with_reducible refine (trimR0 _ s.data.toList _ (by simp) (by simpa using hs)).mono ?_); rintro e w' ⟨rfl, rfl⟩)
    | (go_at_call 20; (with_reducible refine (d_right_any _ ⟨(Dc.core s.data.toList).toArray⟩ _ _ h3).mono ?_); rintro e w3 ⟨rfl, hb_w3⟩; have hB_w3 : Below (w).heap.size (w) w3 := Below.trans (by (repeat (first | exact Below.refl _ _ | assumption | refine Below.setCell ?_ (by first | omega | (simp <;> omega)) _ | refine Below.alloc ?_ (by first | omega | (simp <;> omega)) _ | refine Below.drew ?_ | refine below_drewN' ?_ _))) (hb_w3.mono (by first | omega | (simp <;> omega))); obtain ⟨hc_w3, hf_w3⟩ := bcell hb_w3; have hz_w3 := hb_w3.size; (try simp only [zD, zN, zA, zS] at hz_w3); have hk := own6 hb_w3 (w.heap.size) (by (try simp only [zD, zN, zA, zS]); omega); obtain ⟨hl0_w3, hm0_w3, hn0_w3, hq0_w3, hr0_w3, hg0_w3⟩ := hk))
  · have h : (!Dc.allDig s.data.toList) = true := by assumption
    (refine bodyPost_ret (v := Dc.Res.val ⟨false, [], 0, 3⟩) (by (simp [results, Tryz.results94, go_sem, Dc.Res.val, hr0_w1, hl0_w1, hm0_w1, hn0_w1, hq0_w1]; done)) rfl (RetB.of (by rw [Dc.mk_bad (by simpa using h)]) (by (repeat (first | exact Below.refl _ _ | assumption | refine Below.setCell ?_ (by first | omega | (simp <;> omega)) _ | refine Below.alloc ?_ (by first | omega | (simp <;> omega)) _ | refine Below.drew ?_ | refine below_drewN' ?_ _)))))
  · have h0 : (!Dc.allDig s.data.toList) = false := by assumption
    have h : List.isEmpty (Dc.core s.data.toList) = true := by assumption
    have h' : Dc.core s.data.toList = [] := by simpa using h
    (refine bodyPost_ret (v := Dc.Res.val ⟨n, Dc.core s.data.toList, 0, 0⟩) (by (simp [results, Tryz.results94, go_sem, Dc.Res.val, hr0_w1, hl0_w1, hm0_w1, hn0_w1, hq0_w1]; done)) rfl (RetB.of (by rw [Dc.mk_zero (by simpa using h0) h', h']) (by (repeat (first | exact Below.refl _ _ | assumption | refine Below.setCell ?_ (by first | omega | (simp <;> omega)) _ | refine Below.alloc ?_ (by first | omega | (simp <;> omega)) _ | refine Below.drew ?_ | refine below_drewN' ?_ _)))))
  · have h0 : (!Dc.allDig s.data.toList) = false := by assumption
    have h : List.isEmpty (Dc.core s.data.toList) = false := by assumption
    have h2 : (!Dc.right (Dc.core s.data.toList) (x + (((Dc.lead s.data.toList).length : Int) - (Dc.core s.data.toList).length))) = true := by assumption
    (refine bodyPost_ret (v := Dc.Res.val ⟨false, [], 0, 2⟩) (by (simp [results, Tryz.results94, go_sem, Dc.Res.val, hr0_w1, hl0_w1, hm0_w1, hn0_w1, hq0_w1, hr0_w3, hl0_w3, hm0_w3, hn0_w3, hq0_w3]; done)) rfl (RetB.of (by rw [Dc.mk_over (by simpa using h0) (by simpa using h) (by rw [Dc.tz_int]; simpa using h2)]) (by (repeat (first | exact Below.refl _ _ | assumption | refine Below.setCell ?_ (by first | omega | (simp <;> omega)) _ | refine Below.alloc ?_ (by first | omega | (simp <;> omega)) _ | refine Below.drew ?_ | refine below_drewN' ?_ _)))))
  · have h0 : (!Dc.allDig s.data.toList) = false := by assumption
    have h : List.isEmpty (Dc.core s.data.toList) = false := by assumption
    have h2 : (!Dc.right (Dc.core s.data.toList) (x + (((Dc.lead s.data.toList).length : Int) - (Dc.core s.data.toList).length))) = false := by assumption
    (refine bodyPost_ret (v := Dc.Res.val ⟨n, Dc.core s.data.toList, x + (((Dc.lead s.data.toList).length : Int) - (Dc.core s.data.toList).length), 0⟩) (by (simp [results, Tryz.results94, go_sem, Dc.Res.val, hr0_w1, hl0_w1, hm0_w1, hn0_w1, hq0_w1, hr0_w3, hl0_w3, hm0_w3, hn0_w3, hq0_w3]; done)) rfl (RetB.of (by rw [Dc.mk_ok (by simpa using h0) (by simpa using h) (by rw [Dc.tz_int]; simpa using h2), Dc.tz_int]) (by (repeat (first | exact Below.refl _ _ | assumption | refine Below.setCell ?_ (by first | omega | (simp <;> omega)) _ | refine Below.alloc ?_ (by first | omega | (simp <;> omega)) _ | refine Below.drew ?_ | refine below_drewN' ?_ _)))))
theorem d_make_lo (n : Bool) (s : ByteArray) (x : Int) (w : World) (hs : s.size ≤ 1000000000) (hx : -9223372036854775808 ≤ x ∧ x ≤ 9223372036854775807) (hf : x < -1099511627776) :
    Calls Tryz.prog 94 #[.bool n, .string s, .int .i64 x] w (RetB (Dc.mk n s.data.toList x).val w) := by
  have h1 : (Dc.lead s.data.toList).length ≤ 1000000000 := by have := Dc.lead_len s.data.toList; rw [bs_length] at this; omega
  have h2 := Dc.core_len s.data.toList
  have h3 : (⟨(Dc.core s.data.toList).toArray⟩ : ByteArray).size ≤ 9223372036854775807 := by rw [size_mk]; omega
  obtain ⟨hx1, hx2⟩ := hx
  have hn : Dc.core s.data.toList ≠ [] → _ := fun hne => Dc.far_not (by simpa using hs) hne (.inl hf)
  have HN := Lib.hid hn; clear hn
  go_enter Tryz.func94, Tryz.ntmps94
  go_wp2_with (first
    | (go_at_call 44; (with_reducible refine (d_plain_any _ _).mono ?_); rintro e w1 ⟨rfl, hb_w1⟩; have hB_w1 : Below (w).heap.size (w) w1 := Below.trans (by (repeat (first | exact Below.refl _ _ | assumption | refine Below.setCell ?_ (by first | omega | (simp <;> omega)) _ | refine Below.alloc ?_ (by first | omega | (simp <;> omega)) _ | refine Below.drew ?_ | refine below_drewN' ?_ _))) (hb_w1.mono (by first | omega | (simp <;> omega))); obtain ⟨hc_w1, hf_w1⟩ := bcell hb_w1; have hz_w1 := hb_w1.size; (try simp only [zD, zN, zA, zS] at hz_w1); have hk := own6 hb_w1 (w.heap.size) (by (try simp only [zD, zN, zA, zS]); omega); obtain ⟨hl0_w1, hm0_w1, hn0_w1, hq0_w1, hr0_w1, hg0_w1⟩ := hk)
    | (go_at_call 118; (with_reducible refine (trimL0 _ _).mono ?_); rintro e w' ⟨rfl, rfl⟩)
    | (go_at_call 119; (with_reducible refine (trimR0 _ s.data.toList _ (by simp) (by simpa using hs)).mono ?_); rintro e w' ⟨rfl, rfl⟩)
    | (go_at_call 20; (with_reducible refine (d_right_any _ ⟨(Dc.core s.data.toList).toArray⟩ _ _ h3).mono ?_); rintro e w3 ⟨rfl, hb_w3⟩; have hB_w3 : Below (w).heap.size (w) w3 := Below.trans (by (repeat (first | exact Below.refl _ _ | assumption | refine Below.setCell ?_ (by first | omega | (simp <;> omega)) _ | refine Below.alloc ?_ (by first | omega | (simp <;> omega)) _ | refine Below.drew ?_ | refine below_drewN' ?_ _))) (hb_w3.mono (by first | omega | (simp <;> omega))); obtain ⟨hc_w3, hf_w3⟩ := bcell hb_w3; have hz_w3 := hb_w3.size; (try simp only [zD, zN, zA, zS] at hz_w3); have hk := own6 hb_w3 (w.heap.size) (by (try simp only [zD, zN, zA, zS]); omega); obtain ⟨hl0_w3, hm0_w3, hn0_w3, hq0_w3, hr0_w3, hg0_w3⟩ := hk))
  · have h : (!Dc.allDig s.data.toList) = true := by assumption
    (refine bodyPost_ret (v := Dc.Res.val ⟨false, [], 0, 3⟩) (by (simp [results, Tryz.results94, go_sem, Dc.Res.val, hr0_w1, hl0_w1, hm0_w1, hn0_w1, hq0_w1]; done)) rfl (RetB.of (by rw [Dc.mk_bad (by simpa using h)]) (by (repeat (first | exact Below.refl _ _ | assumption | refine Below.setCell ?_ (by first | omega | (simp <;> omega)) _ | refine Below.alloc ?_ (by first | omega | (simp <;> omega)) _ | refine Below.drew ?_ | refine below_drewN' ?_ _)))))
  · have h0 : (!Dc.allDig s.data.toList) = false := by assumption
    have h : List.isEmpty (Dc.core s.data.toList) = true := by assumption
    have h' : Dc.core s.data.toList = [] := by simpa using h
    (refine bodyPost_ret (v := Dc.Res.val ⟨n, Dc.core s.data.toList, 0, 0⟩) (by (simp [results, Tryz.results94, go_sem, Dc.Res.val, hr0_w1, hl0_w1, hm0_w1, hn0_w1, hq0_w1]; done)) rfl (RetB.of (by rw [Dc.mk_zero (by simpa using h0) h', h']) (by (repeat (first | exact Below.refl _ _ | assumption | refine Below.setCell ?_ (by first | omega | (simp <;> omega)) _ | refine Below.alloc ?_ (by first | omega | (simp <;> omega)) _ | refine Below.drew ?_ | refine below_drewN' ?_ _)))))
  · have h0 : (!Dc.allDig s.data.toList) = false := by assumption
    have h : List.isEmpty (Dc.core s.data.toList) = false := by assumption
    have hn := HN.out (by simpa using h)
    (refine bodyPost_ret (v := Dc.Res.val ⟨false, [], 0, 2⟩) (by (simp [results, Tryz.results94, go_sem, Dc.Res.val, hr0_w1, hl0_w1, hm0_w1, hn0_w1, hq0_w1, hr0_w3, hl0_w3, hm0_w3, hn0_w3, hq0_w3]; done)) rfl (RetB.of (by rw [Dc.mk_over (by simpa using h0) (by simpa using h) hn.1]) (by (repeat (first | exact Below.refl _ _ | assumption | refine Below.setCell ?_ (by first | omega | (simp <;> omega)) _ | refine Below.alloc ?_ (by first | omega | (simp <;> omega)) _ | refine Below.drew ?_ | refine below_drewN' ?_ _)))))
  · have h : List.isEmpty (Dc.core s.data.toList) = false := by assumption
    have h2 : (!Dc.right (Dc.core s.data.toList) x) = false := by assumption
    exact absurd (by simpa using h2) (HN.out (by simpa using h)).2
theorem d_make_hi (n : Bool) (s : ByteArray) (x : Int) (w : World) (hs : s.size ≤ 1000000000) (hx : -9223372036854775808 ≤ x ∧ x ≤ 9223372036854775807) (hf : 1099511627776 ≤ x) :
    Calls Tryz.prog 94 #[.bool n, .string s, .int .i64 x] w (RetB (Dc.mk n s.data.toList x).val w) := by
  have h1 : (Dc.lead s.data.toList).length ≤ 1000000000 := by have := Dc.lead_len s.data.toList; rw [bs_length] at this; omega
  have h2 := Dc.core_len s.data.toList
  have h3 : (⟨(Dc.core s.data.toList).toArray⟩ : ByteArray).size ≤ 9223372036854775807 := by rw [size_mk]; omega
  obtain ⟨hx1, hx2⟩ := hx
  have hn : Dc.core s.data.toList ≠ [] → _ := fun hne => Dc.far_not (by simpa using hs) hne (.inr hf)
  have HN := Lib.hid hn; clear hn
  go_enter Tryz.func94, Tryz.ntmps94
  go_wp2_with (first
    | (go_at_call 44; (with_reducible refine (d_plain_any _ _).mono ?_); rintro e w1 ⟨rfl, hb_w1⟩; have hB_w1 : Below (w).heap.size (w) w1 := Below.trans (by (repeat (first | exact Below.refl _ _ | assumption | refine Below.setCell ?_ (by first | omega | (simp <;> omega)) _ | refine Below.alloc ?_ (by first | omega | (simp <;> omega)) _ | refine Below.drew ?_ | refine below_drewN' ?_ _))) (hb_w1.mono (by first | omega | (simp <;> omega))); obtain ⟨hc_w1, hf_w1⟩ := bcell hb_w1; have hz_w1 := hb_w1.size; (try simp only [zD, zN, zA, zS] at hz_w1); have hk := own6 hb_w1 (w.heap.size) (by (try simp only [zD, zN, zA, zS]); omega); obtain ⟨hl0_w1, hm0_w1, hn0_w1, hq0_w1, hr0_w1, hg0_w1⟩ := hk)
    | (go_at_call 118; (with_reducible refine (trimL0 _ _).mono ?_); rintro e w' ⟨rfl, rfl⟩)
    | (go_at_call 119; (with_reducible refine (trimR0 _ s.data.toList _ (by simp) (by simpa using hs)).mono ?_); rintro e w' ⟨rfl, rfl⟩)
    | (go_at_call 20; (with_reducible refine (d_right_any _ ⟨(Dc.core s.data.toList).toArray⟩ _ _ h3).mono ?_); rintro e w3 ⟨rfl, hb_w3⟩; have hB_w3 : Below (w).heap.size (w) w3 := Below.trans (by (repeat (first | exact Below.refl _ _ | assumption | refine Below.setCell ?_ (by first | omega | (simp <;> omega)) _ | refine Below.alloc ?_ (by first | omega | (simp <;> omega)) _ | refine Below.drew ?_ | refine below_drewN' ?_ _))) (hb_w3.mono (by first | omega | (simp <;> omega))); obtain ⟨hc_w3, hf_w3⟩ := bcell hb_w3; have hz_w3 := hb_w3.size; (try simp only [zD, zN, zA, zS] at hz_w3); have hk := own6 hb_w3 (w.heap.size) (by (try simp only [zD, zN, zA, zS]); omega); obtain ⟨hl0_w3, hm0_w3, hn0_w3, hq0_w3, hr0_w3, hg0_w3⟩ := hk))
  · have h : (!Dc.allDig s.data.toList) = true := by assumption
    (refine bodyPost_ret (v := Dc.Res.val ⟨false, [], 0, 3⟩) (by (simp [results, Tryz.results94, go_sem, Dc.Res.val, hr0_w1, hl0_w1, hm0_w1, hn0_w1, hq0_w1]; done)) rfl (RetB.of (by rw [Dc.mk_bad (by simpa using h)]) (by (repeat (first | exact Below.refl _ _ | assumption | refine Below.setCell ?_ (by first | omega | (simp <;> omega)) _ | refine Below.alloc ?_ (by first | omega | (simp <;> omega)) _ | refine Below.drew ?_ | refine below_drewN' ?_ _)))))
  · have h0 : (!Dc.allDig s.data.toList) = false := by assumption
    have h : List.isEmpty (Dc.core s.data.toList) = true := by assumption
    have h' : Dc.core s.data.toList = [] := by simpa using h
    (refine bodyPost_ret (v := Dc.Res.val ⟨n, Dc.core s.data.toList, 0, 0⟩) (by (simp [results, Tryz.results94, go_sem, Dc.Res.val, hr0_w1, hl0_w1, hm0_w1, hn0_w1, hq0_w1]; done)) rfl (RetB.of (by rw [Dc.mk_zero (by simpa using h0) h', h']) (by (repeat (first | exact Below.refl _ _ | assumption | refine Below.setCell ?_ (by first | omega | (simp <;> omega)) _ | refine Below.alloc ?_ (by first | omega | (simp <;> omega)) _ | refine Below.drew ?_ | refine below_drewN' ?_ _)))))
  · have h0 : (!Dc.allDig s.data.toList) = false := by assumption
    have h : List.isEmpty (Dc.core s.data.toList) = false := by assumption
    have hn := HN.out (by simpa using h)
    (refine bodyPost_ret (v := Dc.Res.val ⟨false, [], 0, 2⟩) (by (simp [results, Tryz.results94, go_sem, Dc.Res.val, hr0_w1, hl0_w1, hm0_w1, hn0_w1, hq0_w1, hr0_w3, hl0_w3, hm0_w3, hn0_w3, hq0_w3]; done)) rfl (RetB.of (by rw [Dc.mk_over (by simpa using h0) (by simpa using h) hn.1]) (by (repeat (first | exact Below.refl _ _ | assumption | refine Below.setCell ?_ (by first | omega | (simp <;> omega)) _ | refine Below.alloc ?_ (by first | omega | (simp <;> omega)) _ | refine Below.drew ?_ | refine below_drewN' ?_ _)))))
  · have h : List.isEmpty (Dc.core s.data.toList) = false := by assumption
    have h2 : (!Dc.right (Dc.core s.data.toList) x) = false := by assumption
    exact absurd (by simpa using h2) (HN.out (by simpa using h)).2
theorem d_make_any (n : Bool) (s : ByteArray) (x : Int) (w : World) (hs : s.size ≤ 1000000000) (hx : -9223372036854775808 ≤ x ∧ x ≤ 9223372036854775807) :
    Calls Tryz.prog 94 #[.bool n, .string s, .int .i64 x] w (RetB (Dc.mk n s.data.toList x).val w) := by
  by_cases h : x < -1099511627776
  · exact d_make_lo n s x w hs hx h
  · by_cases h' : x < 1099511627776
    · exact d_make_small n s x w hs ⟨by omega, h'⟩
    · exact d_make_hi n s x w hs hx (by omega)
end Go.Proofs.YtiglekomfgfilaaGreatDoor

/- exact.of: a natural times a power of two as a decimal. -/
namespace Go.Proofs.YtiglekomfgfilaaGreatDoor
set_option maxRecDepth 100000
set_option maxHeartbeats 4000000
set_option linter.all false
open Go.RowKit
attribute [local go_sem] Fl.dv
def Z3 (W : World) (b : Nat) : Prop := W.cell? ⟨b, 0, none⟩ = some (.bool false) ∧ W.cell? ⟨b, 1, none⟩ = some (.string ⟨#[]⟩) ∧ W.cell? ⟨b, 2, none⟩ = some (.int .i64 0) ∧ (∀ o, W.frozen? ⟨b, o, none⟩ = false) ∧ b < W.heap.size
theorem Z3.new (w : World) : Z3 (w.alloc (Obj.cells #[Value.bool false, Value.string ⟨#[]⟩, Value.int IntKind.i64 0] 27)) w.heap.size :=
  ⟨by simp [go_sem], by simp [go_sem], by simp [go_sem], fun o => by
    unfold World.frozen?; simp only []
    rw [show (w.alloc (Obj.cells #[Value.bool false, Value.string ⟨#[]⟩, Value.int IntKind.i64 0] 27)).heap[w.heap.size]? = some _ from heap_alloc_new w _]
    simp, by simp⟩
theorem Z3.on {W W' : World} {b : Nat} (h : Z3 W b) (hb : Below W.heap.size W W') : Z3 W' b := by
  obtain ⟨h0, h1, h2, hf, hl⟩ := h
  exact ⟨(hb.cell (p := ⟨b, 0, none⟩) hl).trans h0, (hb.cell (p := ⟨b, 1, none⟩) hl).trans h1, (hb.cell (p := ⟨b, 2, none⟩) hl).trans h2, fun o => (hb.frozen (p := ⟨b, o, none⟩) hl).trans (hf o), Nat.lt_of_lt_of_le hl hb.size⟩
theorem Z3.alloc {W : World} {b : Nat} (h : Z3 W b) (o : Obj) : Z3 (W.alloc o) b := h.on ((Below.refl _ _).alloc (Nat.le_refl _) o)
theorem Z3.step {W W1 W' : World} {b : Nat} (h : Z3 W b) (hb : Below W1.heap.size W1 W') (hW : Below W.heap.size W W1 := by first | exact Below.alloc (Below.refl _ _) (Nat.le_refl _) _ | (repeat (first | exact Below.refl _ _ | refine Below.setCell ?_ (by first | exact Nat.le_refl _ | (simp <;> omega)) _ | refine Below.alloc ?_ (by first | exact Nat.le_refl _ | (simp <;> omega)) _ | refine Below.drew ?_))) : Z3 W' b := (h.on hW).on hb
theorem Fl.len2 {n : Nat} (hn : n < Na.B ^ 2) : (Na.limbs n).length ≤ 2 := Na.limbs_len_le _ _ hn
theorem Fl.small2 {n : Nat} (hn : n < Na.B ^ 2) : Na.big (Na.limbs n) = false := by
  have := Fl.len2 hn
  rw [Na.big, Na.rt_limbs]; exact decide_eq_false (by omega)
theorem Fl.shl_eq (n k : Nat) (hn : n < Na.B ^ 2) (hk : k ≤ 1200) : Na.shl (Na.limbs n) (k : Int) = (Na.limbs (n * 2 ^ k), 0) := by
  rw [Na.shl, if_neg (by omega), Fl.small2 hn, if_neg (by simp), Na.val_limbs]
  by_cases h0 : n = 0
  · rw [if_pos h0, h0, Nat.zero_mul, Na.limbs_zero]
  · rw [if_neg h0, if_neg, Int.toNat_natCast]
    have := Na.bitLen_le' (n := n) (k := 64) hn
    omega
theorem Fl.shr_one (n : Nat) (hn : n < Na.B ^ 2) : Na.shr (Na.limbs n) 1 = (Na.limbs (n / 2), decide (n % 2 ≠ 0), 0) := by
  rw [Na.shr, if_neg (by omega), Fl.small2 hn, if_neg (by simp), Na.val_limbs]; rfl
theorem Fl.pow_five (k : Nat) (hk : k ≤ 1200) : Na.pow 5 (k : Int) = (Na.limbs (5 ^ k), 0) := by
  have h := Na.limbs_len_le _ _ (Nat.lt_of_le_of_lt (Fl.pow_le_B 5 k (by decide) hk) (show Na.B ^ 120 < Na.B ^ 121 from Nat.pow_lt_pow_right (by decide) (by decide)))
  rw [Na.pow, if_neg (by omega), if_neg (by omega), Int.toNat_natCast, Na.fits, if_neg (by show ¬ 256 < (Na.limbs (5 ^ k)).length; omega)]; rfl
theorem Fl.mul_five (m k : Nat) (hm : m < Na.B ^ 2) (hk : k ≤ 1200) : Na.mul (Na.limbs m) (Na.limbs (5 ^ k)) = (Na.limbs (m * 5 ^ k), 0) := by
  have h := Na.limbs_len_le _ _ (Nat.lt_of_le_of_lt (Fl.pow_le_B 5 k (by decide) hk) (show Na.B ^ 120 < Na.B ^ 121 from Nat.pow_lt_pow_right (by decide) (by decide)))
  have h2 := Fl.len_mul_pow m 5 k hm (by decide) hk
  have hb : Na.big (Na.limbs (5 ^ k)) = false := by rw [Na.big, Na.rt_limbs]; exact decide_eq_false (by omega)
  rw [Na.mul, Fl.small2 hm, hb, if_neg (by simp), Na.val_limbs, Na.val_limbs, Na.fits, if_neg (by omega)]
theorem Fl.make_any (s : Bool) (v : Nat) (x : Int) (w : World) (hv : (Na.limbs v).length ≤ 1000) (hx : -9223372036854775808 ≤ x ∧ x ≤ 9223372036854775807) :
    Calls Tryz.prog 94 #[.bool s, .string ⟨(Lib.decDigits v).toArray⟩, .int .i64 x] w (RetB (.tuple #[Fl.dv (Dc.mk s (Lib.decDigits v) x), .int .i64 (Dc.mk s (Lib.decDigits v) x).e]) w) := by
  have h1 := dec_len_le (Na.limbs v) (Na.ok_limbs v)
  rw [Na.val_limbs] at h1
  exact d_make_any s ⟨(Lib.decDigits v).toArray⟩ x w (by rw [size_mk]; omega) hx
theorem Fl.digits_any (a : Option Addr) (c v : Nat) (w w0 : World) (hs : Sl w a c (Na.limbs v)) (hv : (Na.limbs v).length ≤ 1000) (ht : Tab w0) (hb : Below w0.heap.size w0 w) :
    Calls Tryz.prog 95 #[.slice a (Na.limbs v).length c] w (RetB (.string ⟨(Lib.decDigits v).toArray⟩) w) := by
  have := na_digits_any a c (Na.limbs v) w hs (by omega) (ht.below hb)
  rwa [Na.val_limbs] at this
theorem ex_of_up (s : Bool) (a : Option Addr) (c n k : Nat) (w : World) (h : Sl w a c (Na.limbs n)) (hn : n < Na.B ^ 2) (hk : k ≤ 1100) (ht : Tab w) :
    Calls Tryz.prog 64 #[.bool s, .slice a (Na.limbs n).length c, .int .i64 k] w (RetB (Fl.dv (Fl.of s n k)) w) := by
  have hof : Fl.of s n k = Dc.mk s (Lib.decDigits (n * 2 ^ k)) 0 := by rw [Fl.of, if_pos (by omega), Int.toNat_natCast]
  have hln := Fl.len2 hn
  have hl := Fl.len_mul_pow n 2 k hn (by decide) (by omega)
  have hsh := fun wr (hb : Below w.heap.size w wr) => na_shl_any a c (Na.limbs n) k wr (h.on hb) (by omega) (by omega)
  rw [Fl.shl_eq n k hn (by omega)] at hsh
  rw [hof]
  obtain ⟨v, hv⟩ : ∃ v, v = n * 2 ^ k := ⟨_, rfl⟩
  rw [← hv] at hsh hl ⊢
  have HD := Lib.hid (fun w1 a1 c1 (hs : Sl w1 a1 c1 (Na.limbs v)) (hb : Below w.heap.size w w1) => Fl.digits_any a1 c1 v w1 w hs (by omega) ht hb)
  have HM := Lib.hid (fun w1 => Fl.make_any s v 0 w1 (by omega) (by omega))
  have HS := Lib.hid hsh
  obtain ⟨S, hS⟩ : ∃ S : ByteArray, S = ⟨(Lib.decDigits v).toArray⟩ := ⟨_, rfl⟩
  obtain ⟨R, hR⟩ : ∃ R, R = Dc.mk s (Lib.decDigits v) 0 := ⟨_, rfl⟩
  rw [← hS] at HD HM
  rw [← hR] at HM ⊢
  clear hv hof hS hR hsh
  go_enter Tryz.func64, Tryz.ntmps64
  go_wp2_with (first
    | (go_at_call 90; (with_reducible refine (HS.out _ ?_).mono ?_); exact (Below.refl _ _).alloc (Nat.le_refl _) _; rintro e w1 ⟨a1, c1, rfl, s1, -, hb1⟩; have zz1 := (Z3.new w).on hb1; have hB1 : Below w.heap.size w w1 := Below.trans ((Below.refl _ _).alloc (Nat.le_refl _) _) (hb1.mono (by simp)))
    | (go_at_call 95; (with_reducible refine (HD.out _ _ _ s1 hB1).mono ?_); rintro e w2 ⟨rfl, hb2⟩; have zz2 := zz1.on hb2; have hB2 := hB1.trans (hb2.mono hB1.size))
    | (go_at_call 94; (with_reducible refine (HM.out _).mono ?_); rintro e w3 ⟨rfl, hb3⟩; have hB3 := hB2.trans (hb3.mono hB2.size); have zz3 := zz2.on hb3; obtain ⟨y0, y1, y2, yf, yl⟩ := zz3; have yf0 := yf 0; have yf1 := yf 1; have yf2 := yf 2; have yn : ¬ w.heap.size = w3.heap.size := (by omega); have yn' : ¬ w3.heap.size = w.heap.size := (by omega)))
  refine bodyPost_ret (v := Fl.dv R) (by simp [results, Tryz.results64, go_sem, y0, y1, y2, yf0, yf1, yf2, yn, yn', yl]; done) rfl (RetB.of rfl (by (repeat (first | exact Below.refl _ _ | assumption | refine Below.setCell ?_ (by first | omega | (simp <;> omega)) _ | refine Below.alloc ?_ (by first | omega | (simp <;> omega)) _ | refine Below.drew ?_ | refine below_drewN' ?_ _))))
def halfLoop (n k : Nat) (w : World) (nv ev : Value) (wr : World) : Prop := ∃ (m j : Nat) (z : Int) (a : Option Addr) (c : Nat), nv = .slice a (Na.limbs m).length c ∧ ev = .int .i64 z ∧ Hid (z = -(j : Int)) ∧ j ≤ k ∧ m < Na.B ^ 2 ∧ Hid (Fl.halve k n = Fl.halve j m) ∧ Hid (Sl wr a c (Na.limbs m)) ∧ Hid (Z3 wr w.heap.size) ∧ Hid (Below w.heap.size w wr)
theorem Na.limbs_head {m : Nat} (h : m ≠ 0) : ∃ h0 : 0 < (Na.limbs m).length, (Na.limbs m)[0] = m % 4294967296 := by
  have e : Na.limbs m = (m % Na.B) :: Na.limbs (m / Na.B) := by rw [Na.limbs, dif_neg h]
  have h0 : 0 < (Na.limbs m).length := by rw [e]; simp
  refine ⟨h0, ?_⟩
  simp only [e, List.getElem_cons_zero]
  first | done | rfl
theorem Fl.and_low (x : Nat) (hx : x < 4294967296) : Go.bits BinOp.and IntKind.u32 (x : Int) 1 = ((x % 2 : Nat) : Int) := by
  have := Na.and_mask x 1 hx (by decide)
  rw [show (2 ^ 1 - 1 : Nat) = 1 from rfl] at this
  exact this
theorem ex_of_down (s : Bool) (a : Option Addr) (c n k : Nat) (w : World) (h : Sl w a c (Na.limbs n)) (hn : n < Na.B ^ 2) (hk0 : 0 < k) (hk : k ≤ 1100) (ht : Tab w) :
    Calls Tryz.prog 64 #[.bool s, .slice a (Na.limbs n).length c, .int .i64 (-(k : Int))] w (RetB (Fl.dv (Fl.of s n (-(k : Int)))) w) := by
  have HOF := Lib.hid (show Fl.of s n (-(k : Int)) = Dc.mk s (Lib.decDigits ((Fl.halve k n).1 * 5 ^ (Fl.halve k n).2)) (-((Fl.halve k n).2 : Int)) by
    rw [Fl.of, if_neg (by omega), Int.neg_neg, Int.toNat_natCast])
  have H := Lib.hid h
  have HT := Lib.hid ht
  have hln := Fl.len2 hn
  obtain ⟨z0, hz0⟩ : ∃ z : Int, z = -(k : Int) := ⟨_, rfl⟩
  have hneg : ¬ 0 ≤ z0 := by omega
  have HZ0 := Lib.hid hz0
  rw [← hz0]; rw [← hz0] at HOF
  clear h ht hz0
  go_enter Tryz.func64, Tryz.ntmps64
  go_wp2_with fail
  go_loopw [1, 2] (halfLoop n k w) (fun _ e _ => (-(intOf e)).toNat)
  case atStart => exact ⟨n, k, z0, a, c, rfl, rfl, HZ0, Nat.le_refl _, hn, Lib.hid rfl, Lib.hid (H.out.on ((Below.refl _ _).alloc (Nat.le_refl _) _)), Lib.hid (Z3.new w), Lib.hid ((Below.refl _ _).alloc (Nat.le_refl _) _)⟩
  case round =>
    clear H hln HZ0
    obtain ⟨m, j, z, a, c, rfl, rfl, HZ, hj, hm, HH, HSl, HZR, HBe⟩ := hrel
    have hml := Fl.len2 hm
    have hz := HZ.out
    by_cases hgo : 0 < j ∧ m ≠ 0 ∧ m % 2 = 0
    · obtain ⟨h1, h2, h3⟩ := hgo
      obtain ⟨j, rfl⟩ : ∃ t, j = t + 1 := ⟨j - 1, by omega⟩
      obtain ⟨hp, hhead⟩ := Na.limbs_head h2
      obtain ⟨b, o, rfl, hb, hc⟩ := HSl.out.plain hp
      have c0 := hc 0 hp
      rw [hhead, Nat.add_zero] at c0
      have hand := Fl.and_low (m % 4294967296) (Nat.mod_lt _ (by decide))
      rw [show m % 4294967296 % 2 = 0 by omega] at hand
      obtain ⟨x, hx⟩ : ∃ x, x = m % 4294967296 := ⟨_, rfl⟩
      rw [← hx] at c0 hand
      have hxl : x < 4294967296 := by rw [hx]; exact Nat.mod_lt _ (by decide)
      have hzn : z < 0 := by omega
      have hz1 : z + 1 ≤ 0 := by omega
      have hz2 : -1200 ≤ z := by omega
      have hsh := na_shr_any (some ⟨b, o, none⟩) c (Na.limbs m) 1 wr HSl.out (by omega) (by omega)
      rw [Fl.shr_one m hm] at hsh
      have HSH := Lib.hid hsh
      have HH2 := Lib.hid (HH.out.trans (Fl.halve_yes h2 h3))
      have HZZ := Lib.hid (show z + 1 = -(j : Int) by omega)
      clear hsh hc hx hhead h2 h3 hz h1
      go_wp2_with (first | (go_at_call 91; (with_reducible refine (HSH.out).mono ?_); rintro e w1 ⟨a1, c1, rfl, s1, -, hb1⟩; have hB1 := HBe.out.trans (hb1.mono HBe.out.size)))
      go_roundw
      case rel => exact ⟨m / 2, j, z + 1, a1, c1, rfl, rfl, HZZ, by omega, by omega, HH2, Lib.hid s1, Lib.hid (HZR.out.on hb1), Lib.hid hB1⟩
      case measure => simp [intOf]; omega
    · have hend : Fl.halve k n = (m, j) := by
        rw [HH.out]
        cases j with
        | zero => rfl
        | succ j => exact Fl.halve_no (by omega)
      have hsp := HOF.out
      rw [hend] at hsp
      have hz3 : -1200 ≤ z ∧ z ≤ 0 := by omega
      obtain ⟨hz3, hz4⟩ := hz3
      have hzj : -z = (j : Int) := by omega
      obtain ⟨v, hv⟩ : ∃ v, v = m * 5 ^ j := ⟨_, rfl⟩
      have hl := Fl.len_mul_pow m 5 j hm (by decide) (by omega)
      have hfl := Na.limbs_len_le _ _ (Nat.lt_of_le_of_lt (Fl.pow_le_B 5 j (by decide) (by omega)) (show Na.B ^ 120 < Na.B ^ 121 from Nat.pow_lt_pow_right (by decide) (by decide)))
      have HP := Lib.hid (fun w1 => (by
        have := na_pow_any 5 (j : Int) w1 (by omega) (by omega)
        rw [Fl.pow_five j (by omega)] at this
        exact this : Calls Tryz.prog 92 #[.int .i64 5, .int .i64 (j : Int)] w1 (GivesE (Na.limbs (5 ^ j), 0) w1)))
      have HM := Lib.hid (fun w1 a1 c1 (hs : Sl w1 a c (Na.limbs m)) (hs1 : Sl w1 a1 c1 (Na.limbs (5 ^ j))) => (by
        have := na_mul_any a c (Na.limbs m) a1 c1 (Na.limbs (5 ^ j)) w1 hs hs1 (by omega) (by omega)
        rw [Fl.mul_five m j hm (by omega), ← hv] at this
        exact this : Calls Tryz.prog 93 #[.slice a (Na.limbs m).length c, .slice a1 (Na.limbs (5 ^ j)).length c1] w1 (GivesE (Na.limbs v, 0) w1)))
      rw [← hv] at hl hsp
      have hzz : -(j : Int) = z := by omega
      have HD := Lib.hid (fun w1 a1 c1 (hs : Sl w1 a1 c1 (Na.limbs v)) (hb : Below w.heap.size w w1) => Fl.digits_any a1 c1 v w1 w hs (by omega) HT.out hb)
      have HMK := Lib.hid (fun w1 => Fl.make_any s v z w1 (by omega) (by omega))
      obtain ⟨S, hS⟩ : ∃ S : ByteArray, S = ⟨(Lib.decDigits v).toArray⟩ := ⟨_, rfl⟩
      obtain ⟨R, hR⟩ : ∃ R, R = Dc.mk s (Lib.decDigits v) z := ⟨_, rfl⟩
      rw [← hS] at HD HMK
      rw [← hR] at HMK
      have HR := Lib.hid (show Fl.of s n z0 = R by rw [hsp, hR]; show Dc.mk _ _ (-(j : Int)) = _; rw [hzz])
      have hcase : z = 0 ∨ (z < 0 ∧ m = 0) ∨ (z < 0 ∧ m ≠ 0 ∧ m % 2 = 1) := by omega
      clear hv hS hR hsp hend hz HZ HH HOF hzz hgo hfl
      rcases hcase with hz0 | ⟨hzn, hm0⟩ | ⟨hzn, hm0, hm1⟩
      · have hznn : ¬ z < 0 := by omega
        clear hz0
        go_wp2_with (first
          | (go_at_call 92; (with_reducible refine (HP.out _).mono ?_); rintro e w1 ⟨a1, c1, rfl, s1, -, hb1⟩; have hB1 := HBe.out.trans (hb1.mono HBe.out.size))
          | (go_at_call 93; (with_reducible refine (HM.out _ _ _ (HSl.out.on hb1) s1).mono ?_); rintro e w2 ⟨a2, c2, rfl, s2, -, hb2⟩; have hB2 := hB1.trans (hb2.mono hB1.size))
          | (go_at_call 95; (with_reducible refine (HD.out _ _ _ s2 hB2).mono ?_); rintro e w3 ⟨rfl, hb3⟩; have hB3 := hB2.trans (hb3.mono hB2.size))
          | (go_at_call 94; (with_reducible refine (HMK.out _).mono ?_); rintro e w4 ⟨rfl, hb4⟩; have hB4 := hB3.trans (hb4.mono hB3.size); have zz4 := (((HZR.out.on hb1).on hb2).on hb3).on hb4; obtain ⟨y0, y1, y2, yf, yl⟩ := zz4; have yf0 := yf 0; have yf1 := yf 1; have yf2 := yf 2; have yn : ¬ w.heap.size = w4.heap.size := (by omega); have yn' : ¬ w4.heap.size = w.heap.size := (by omega)))
        refine bodyPost_ret (v := Fl.dv R) (by simp [results, Tryz.results64, go_sem, y0, y1, y2, yf0, yf1, yf2, yn, yn', yl]; done) rfl (RetB.of (by rw [HR.out]) (by (repeat (first | exact Below.refl _ _ | assumption | refine Below.setCell ?_ (by first | omega | (simp <;> omega)) _ | refine Below.alloc ?_ (by first | omega | (simp <;> omega)) _ | refine Below.drew ?_ | refine below_drewN' ?_ _))))
      · have hl0 : (Na.limbs m).length = 0 := by rw [hm0, Na.limbs_zero]; rfl
        rw [hl0] at HM
        clear hm0
        go_wp2_with (first
          | (go_at_call 92; (with_reducible refine (HP.out _).mono ?_); rintro e w1 ⟨a1, c1, rfl, s1, -, hb1⟩; have hB1 := HBe.out.trans (hb1.mono HBe.out.size))
          | (go_at_call 93; (with_reducible refine (HM.out _ _ _ (HSl.out.on hb1) s1).mono ?_); rintro e w2 ⟨a2, c2, rfl, s2, -, hb2⟩; have hB2 := hB1.trans (hb2.mono hB1.size))
          | (go_at_call 95; (with_reducible refine (HD.out _ _ _ s2 hB2).mono ?_); rintro e w3 ⟨rfl, hb3⟩; have hB3 := hB2.trans (hb3.mono hB2.size))
          | (go_at_call 94; (with_reducible refine (HMK.out _).mono ?_); rintro e w4 ⟨rfl, hb4⟩; have hB4 := hB3.trans (hb4.mono hB3.size); have zz4 := (((HZR.out.on hb1).on hb2).on hb3).on hb4; obtain ⟨y0, y1, y2, yf, yl⟩ := zz4; have yf0 := yf 0; have yf1 := yf 1; have yf2 := yf 2; have yn : ¬ w.heap.size = w4.heap.size := (by omega); have yn' : ¬ w4.heap.size = w.heap.size := (by omega)))
        refine bodyPost_ret (v := Fl.dv R) (by simp [results, Tryz.results64, go_sem, y0, y1, y2, yf0, yf1, yf2, yn, yn', yl]; done) rfl (RetB.of (by rw [HR.out]) (by (repeat (first | exact Below.refl _ _ | assumption | refine Below.setCell ?_ (by first | omega | (simp <;> omega)) _ | refine Below.alloc ?_ (by first | omega | (simp <;> omega)) _ | refine Below.drew ?_ | refine below_drewN' ?_ _))))
      · obtain ⟨hp, hhead⟩ := Na.limbs_head hm0
        obtain ⟨b, o, rfl, hb, hc⟩ := HSl.out.plain hp
        have c0 := hc 0 hp
        rw [hhead, Nat.add_zero] at c0
        have hand := Fl.and_low (m % 4294967296) (Nat.mod_lt _ (by decide))
        rw [show m % 4294967296 % 2 = 1 by omega] at hand
        obtain ⟨x, hx⟩ : ∃ x, x = m % 4294967296 := ⟨_, rfl⟩
        rw [← hx] at c0 hand
        have hxl : x < 4294967296 := by rw [hx]; exact Nat.mod_lt _ (by decide)
        clear hc hx hhead hm0 hm1
        go_wp2_with (first
          | (go_at_call 92; (with_reducible refine (HP.out _).mono ?_); rintro e w1 ⟨a1, c1, rfl, s1, -, hb1⟩; have hB1 := HBe.out.trans (hb1.mono HBe.out.size))
          | (go_at_call 93; (with_reducible refine (HM.out _ _ _ (HSl.out.on hb1) s1).mono ?_); rintro e w2 ⟨a2, c2, rfl, s2, -, hb2⟩; have hB2 := hB1.trans (hb2.mono hB1.size))
          | (go_at_call 95; (with_reducible refine (HD.out _ _ _ s2 hB2).mono ?_); rintro e w3 ⟨rfl, hb3⟩; have hB3 := hB2.trans (hb3.mono hB2.size))
          | (go_at_call 94; (with_reducible refine (HMK.out _).mono ?_); rintro e w4 ⟨rfl, hb4⟩; have hB4 := hB3.trans (hb4.mono hB3.size); have zz4 := (((HZR.out.on hb1).on hb2).on hb3).on hb4; obtain ⟨y0, y1, y2, yf, yl⟩ := zz4; have yf0 := yf 0; have yf1 := yf 1; have yf2 := yf 2; have yn : ¬ w.heap.size = w4.heap.size := (by omega); have yn' : ¬ w4.heap.size = w.heap.size := (by omega)))
        refine bodyPost_ret (v := Fl.dv R) (by simp [results, Tryz.results64, go_sem, y0, y1, y2, yf0, yf1, yf2, yn, yn', yl]; done) rfl (RetB.of (by rw [HR.out]) (by (repeat (first | exact Below.refl _ _ | assumption | refine Below.setCell ?_ (by first | omega | (simp <;> omega)) _ | refine Below.alloc ?_ (by first | omega | (simp <;> omega)) _ | refine Below.drew ?_ | refine below_drewN' ?_ _))))
theorem ex_of_any (s : Bool) (a : Option Addr) (c n : Nat) (e : Int) (w : World) (h : Sl w a c (Na.limbs n)) (hn : n < Na.B ^ 2) (he : -1100 ≤ e ∧ e ≤ 1100) (ht : Tab w) :
    Calls Tryz.prog 64 #[.bool s, .slice a (Na.limbs n).length c, .int .i64 e] w (RetB (Fl.dv (Fl.of s n e)) w) := by
  by_cases h0 : 0 ≤ e
  · obtain ⟨k, rfl⟩ : ∃ k : Nat, e = k := ⟨e.toNat, by omega⟩
    exact ex_of_up s a c n k w h hn (by omega) ht
  · obtain ⟨k, rfl⟩ : ∃ k : Nat, e = -(k : Int) := ⟨(-e).toNat, by omega⟩
    exact ex_of_down s a c n k w h hn (by omega) (by omega) ht
end Go.Proofs.YtiglekomfgfilaaGreatDoor
