/- Plain Lean: a number's digits are read as the number. -/
import Derived.Test.YtjnkbifafbjckaaGreatDoorZ8
import Derived.Test.YtjnkbifafbjckaaGreatDoorZ1
import Derived.Test.YtjnkbifafbjckaaGreatDoorZ3
namespace Go.Proofs.YtjnkbifafbjckaaGreatDoor.Na
set_option linter.all false
open Go

theorem dig_byte (r : Nat) (h : r < 10) : isD (UInt8.ofNat (48 + r)) = true ∧ (UInt8.ofNat (48 + r)).toNat - 48 = r ∧ (r ≠ 0 → UInt8.ofNat (48 + r) ≠ 48) := by
  have e : (UInt8.ofNat (48 + r)).toNat = 48 + r := by rw [UInt8.toNat_ofNat']; exact Nat.mod_eq_of_lt (by omega)
  refine ⟨by simp only [isD, e, Bool.and_eq_true, decide_eq_true_eq]; omega, by rw [e]; omega, fun h0 e2 => ?_⟩
  have := congrArg UInt8.toNat e2
  rw [e] at this
  have h48 : (48 : UInt8).toNat = 48 := rfl
  omega
theorem num_snoc (t : List UInt8) (c : UInt8) : num (t ++ [c]) = 10 * num t + (c.toNat - 48) := by rw [num, List.foldl_append]; rfl
theorem dec_spec (n : Nat) : (Lib.decDigits n).all isD = true ∧ num (Lib.decDigits n) = n ∧ 0 < (Lib.decDigits n).length ∧ (n ≠ 0 → (Lib.decDigits n)[0]? ≠ some 48) ∧ (n = 0 → (Lib.decDigits n).length = 1) := by
  induction n using Nat.strongRecOn with
  | _ n ih =>
    by_cases h : n < 10
    · rw [Lib.decDigits, dif_pos h]
      obtain ⟨h1, h2, h3⟩ := dig_byte n h
      obtain ⟨c, hc⟩ : ∃ c, c = UInt8.ofNat (48 + n) := ⟨_, rfl⟩
      rw [← hc] at h1 h2 h3 ⊢
      refine ⟨by simp [h1], by simp [num, h2], by simp, fun h0 e => h3 h0 ?_, fun _ => rfl⟩
      simpa using e
    · obtain ⟨i1, i2, i3, i4, _⟩ := ih (n / 10) (by omega)
      obtain ⟨h1, h2, _⟩ := dig_byte (n % 10) (by omega)
      rw [Lib.decDigits, dif_neg h]
      obtain ⟨c, hc⟩ : ∃ c, c = UInt8.ofNat (48 + n % 10) := ⟨_, rfl⟩
      rw [← hc] at h1 h2 ⊢
      refine ⟨by rw [List.all_append, i1]; simp [h1], by rw [num_snoc, i2, h2]; omega, by simp, fun _ => ?_, fun h0 => by omega⟩
      rw [List.getElem?_append_left i3]
      exact i4 (by omega)
theorem bitLen_half {y : Nat} (h : y ≠ 0) : bitLen y = bitLen (y / 2) + 1 := by
  rw [bitLen, if_neg h, bitLen]
  by_cases h1 : y / 2 = 0
  · have : y = 1 := by omega
    subst this; rfl
  · rw [if_neg h1, Nat.log2_def y, if_pos (by omega)]
theorem bitLen_pos' {y : Nat} (h : y ≠ 0) : 0 < bitLen y := by rw [bitLen, if_neg h]; exact Nat.succ_pos _
theorem bitLen_le' {n k : Nat} (h : n < 2 ^ k) : bitLen n ≤ k := by
  by_cases h0 : n = 0
  · subst h0; exact Nat.zero_le _
  · rw [bitLen, if_neg h0]
    exact (Nat.log2_lt h0).2 h
theorem val_drop_at (q : List Nat) (m : Nat) (h : m < q.length) : val (q.drop m) = q[m] + B * val (q.drop (m + 1)) := by
  rw [List.drop_eq_getElem_cons h]; rfl
/-- What was written is read again. -/
theorem parse_dec {n : Nat} (h : n < B ^ 256) : parse (Lib.decDigits n) = (limbs n, 0) := by
  obtain ⟨h1, h2, h3, _⟩ := dec_spec n
  rw [parse, if_neg, h2, fits, if_neg]
  · have := limbs_len_le _ _ h; omega
  · rintro (e | e)
    · rw [e] at h3; simp at h3
    · rw [h1] at e; cases e
end Go.Proofs.YtjnkbifafbjckaaGreatDoor.Na

namespace Go.Proofs.YtjnkbifafbjckaaGreatDoor
set_option linter.all false
open Go.RowKit

theorem r7_digit_any (c : UInt8) (w : World) : Calls Tryz.prog 90 #[.int .u8 c.toNat] w (Ret0 (.bool (Dc.isDig c)) w) := by
  have h1 : (decide (48 ≤ (c.toNat : Int)) && decide ((c.toNat : Int) ≤ 57)) = Dc.isDig c := rfl
  have H1 := Lib.hid h1; clear h1
  by_cases h : 48 ≤ (c.toNat : Int)
  · go_enter Tryz.func90, Tryz.ntmps90
    go_wp2
    go_ret
    exact Ret0.of (by rw [← H1.out]; simp [h])
  · go_enter Tryz.func90, Tryz.ntmps90
    go_wp2
    go_ret
    exact Ret0.of (by rw [← H1.out, decide_eq_false (by omega)]; rfl)

set_option maxHeartbeats 400000 in
theorem r7_right_any (n : Bool) (s : ByteArray) (x : Int) (w : World) (hs : s.size ≤ 9223372036854775807) :
    Calls Tryz.prog 91 #[.agg #[.bool n, .string s, .int .i64 x]] w (RetB (.bool (Dc.right s.data.toList x)) w) := by
  have hb1 : Below w.heap.size w (w.alloc (Obj.cells #[Value.bool n, Value.string s, Value.int IntKind.i64 x] 25)) := (Below.refl _ _).alloc (Nat.le_refl _) _
  by_cases h0 : s.size = 0
  · have H0 := Lib.hid h0
    replace h0 : s.size ≤ 0 := by omega
    go_enter Tryz.func91, Tryz.ntmps91
    go_wp2_with fail
    go_ret
    exact RetB.of (congrArg Value.bool (Dc.right_nil _ _ (by simpa using H0.out)).symm) hb1
  · replace h0 : 0 < s.size := by omega
    by_cases hall : s.size ≤ 1100 ∧ -100000 ≤ x ∧ x ≤ 100000 ∧ ¬ (s[0].toNat : Int) = 48 ∧ ¬ (s[s.size - 1].toNat : Int) = 48
    · obtain ⟨n2, n3, n4, n0, n1⟩ := hall
      have b0 : ((s[0].toNat : Int) == 48) = false := by simpa using n0
      have b1 : ((s[s.size - 1].toNat : Int) == 48) = false := by simpa using n1
      go_enter Tryz.func91, Tryz.ntmps91
      go_wp2_with fail
      go_loop [4] (fun i => ∃ k : Nat, k ≤ s.size ∧ i = .int .i64 k ∧ (s.data.toList.take k).all Dc.isDig = true) (fun i => s.size - (intOf i).toNat)
      case atStart => exact ⟨0, Nat.zero_le _, rfl, rfl⟩
      case round =>
        obtain ⟨k, hk, rfl, hall⟩ := hrel
        have HA := Lib.hid hall; clear hall
        by_cases hlt : k < s.size
        · have hsn := Lib.hid (all_take_snoc s k hlt Dc.isDig)
          go_wp2_with (go_at_call 90; refine (r7_digit_any _ _).mono ?_; rintro e w' ⟨rfl, rfl⟩)
          · have hd : (!Dc.isDig s[k]) = true := by assumption
            go_ret
            exact RetB.of (congrArg Value.bool (Dc.right_bytes_nodig s x k hlt (by simpa using hd)).symm) hb1
          · have hd : (!Dc.isDig s[k]) = false := by assumption
            go_round
            case rel => exact ⟨k + 1, by omega, by go_num, by rw [hsn.out, HA.out]; simpa using hd⟩
            case measure => simp [intOf]; omega
        · go_wp2
          go_ret
          exact RetB.of (congrArg Value.bool (Dc.right_bytes_true s x h0 n2 n3 n4 n0 n1 (by have := HA.out; rwa [List.take_of_length_le (by simp; omega)] at this)).symm) hb1
    · have HN := Lib.hid hall; clear hall
      go_enter Tryz.func91, Tryz.ntmps91
      go_wp2_with fail
      all_goals first
        | (go_ret; exact RetB.of (congrArg Value.bool (Dc.right_bytes_false s x h0 (by first | omega | (simp only [beq_iff_eq] at *; omega))).symm) hb1)
        | (exfalso; have := HN.out; simp only [beq_eq_false_iff_ne, ne_eq] at *; omega)
end Go.Proofs.YtjnkbifafbjckaaGreatDoor

namespace Go.Proofs.YtjnkbifafbjckaaGreatDoor
set_option linter.all false
open Go.RowKit

theorem below_iter (w : World) (s : ByteArray) (pos : Nat) : Below w.heap.size w (w.iter s pos) := (Below.refl _ _).alloc (Nat.le_refl _) _

theorem all_take_snoc_false (s : ByteArray) (k : Nat) (h : k < s.size) (p : UInt8 → Bool) (hp : p s[k] = false) : s.data.toList.all p = false := by
  rw [List.all_eq_false]
  exact ⟨s[k], List.mem_of_getElem? (bs_getElem? s k h), by simp [hp]⟩

set_option maxRecDepth 100000 in
set_option maxHeartbeats 400000 in
theorem d_plain_any (s : ByteArray) (w : World) :
    Calls Tryz.prog 73 #[.string s] w (RetB (.bool (Dc.allDig s.data.toList)) w) := by
  obtain ⟨res, hres⟩ : ∃ b, b = Dc.allDig s.data.toList := ⟨_, rfl⟩
  rw [← hres]; have HR := Lib.hid hres; clear hres
  go_enter Tryz.func73, Tryz.ntmps73
  go_wp2_with fail
  go_loopw [] (fun wr => ∃ pos : Nat, pos ≤ s.size ∧ wr = w.iter s pos ∧ (s.data.toList.take pos).all Dc.isDig = true) (fun wr => s.size - wr.iterPos w.heap.size)
  case atStart => exact ⟨0, Nat.zero_le _, rfl, rfl⟩
  case round =>
    obtain ⟨pos, hpos, rfl, hall⟩ := hrel
    have HA := Lib.hid hall; clear hall
    by_cases hp : pos < s.size
    · have hsn := Lib.hid (all_take_snoc s pos hp Dc.isDig)
      have hno : Dc.isDig s[pos] = false → false = res := fun h => by rw [HR.out]; exact (all_take_snoc_false s pos hp _ h).symm
      have HNO := Lib.hid hno; clear hno
      by_cases ha : (s[pos]'hp).toNat < 128
      · have hnx : ∀ ty, (Instr.next (.pointer (some ⟨w.heap.size, 0, none⟩)) true ty).run Tryz.prog (w.iter s pos) = _ := fun ty => run_next_ascii w s pos ty hp ha
        go_wp2
        · go_ret
          exact RetB.of (congrArg Value.bool (HNO.out (by simp [Dc.isDig]; omega))) (below_iter _ _ _)
        · go_roundw
          case rel => exact ⟨pos + 1, by omega, rfl, by rw [hsn.out, HA.out]; simp [Dc.isDig]; omega⟩
          case measure => simp; omega
        · go_ret
          exact RetB.of (congrArg Value.bool (HNO.out (by simp [Dc.isDig]; omega))) (below_iter _ _ _)
      · have hd := decode_high s pos hp (by omega)
        have hnx : ∀ ty, (Instr.next (.pointer (some ⟨w.heap.size, 0, none⟩)) true ty).run Tryz.prog (w.iter s pos) = _ := fun ty => run_next_any w s pos ty hp
        go_wp2
        all_goals go_ret
        all_goals exact RetB.of (congrArg Value.bool (HNO.out (by simp [Dc.isDig]; omega))) (below_iter _ _ _)
    · have hnx : ∀ ty, (Instr.next (.pointer (some ⟨w.heap.size, 0, none⟩)) true ty).run Tryz.prog (w.iter s pos) = _ := fun ty => run_next_end w s pos ty hp
      go_wp2
      go_ret
      exact RetB.of (congrArg Value.bool (by have h := HA.out; rw [List.take_of_length_le (by simp; omega)] at h; rw [HR.out]; exact h.symm)) (below_iter _ _ _)

theorem ba_toList (s : ByteArray) (l : Dc.Bs) (h : s.toList = l) : s.data.toList = l := by rw [← h, ByteArray.toList_eq]

set_option maxHeartbeats 400000 in
theorem d_right_any (n : Bool) (s : ByteArray) (x : Int) (w : World) (hs : s.size ≤ 9223372036854775807) :
    Calls Tryz.prog 20 #[.agg #[.bool n, .string s, .int .i64 x]] w (RetB (.bool (Dc.right s.data.toList x)) w) := by
  obtain ⟨res, hres⟩ : ∃ b, b = Dc.right s.data.toList x := ⟨_, rfl⟩
  rw [← hres]; have HR := Lib.hid hres; clear hres
  have hb1 : Below w.heap.size w (w.alloc (Obj.cells #[Value.bool n, Value.string s, Value.int IntKind.i64 x] 25)) := (Below.refl _ _).alloc (Nat.le_refl _) _
  by_cases h0 : s.size = 0
  · have he := isEmpty_of_zero h0
    have H0 := Lib.hid h0; clear h0
    go_enter Tryz.func20, Tryz.ntmps20
    go_wp2_with fail
    go_ret
    exact RetB.of (congrArg Value.bool (by rw [HR.out, Dc.right_nil _ _ (by simpa using H0.out)])) hb1
  · have h0' : 0 < s.size := by omega
    have he := isEmpty_of_pos h0'
    clear h0
    have hF : (1100 < s.size ∨ x < -100000 ∨ 100000 < x ∨ (s[0].toNat : Int) = 48 ∨ (s[s.size - 1].toNat : Int) = 48) → false = res := fun h => by rw [HR.out]; exact (Dc.right_bytes_false s x h0' h).symm
    have HF := Lib.hid hF; clear hF
    go_enter Tryz.func20, Tryz.ntmps20
    go_wp2_with (first
      | (go_at_call 73; refine (d_plain_any _ _).mono ?_; rintro e w1 ⟨rfl, hb2⟩; obtain ⟨hc, hf⟩ := bcell hb2)
      | (go_at_call 74; refine (Tryz.strings_HasSuffix _ _ _ hs).mono ?_; rintro e w' ⟨rfl, rfl⟩))
    all_goals go_ret
    · have hp : Dc.allDig s.data.toList = true := by assumption
      have hz : (s[0].toNat : Int) = 48 := by assumption
      exact RetB.of (congrArg Value.bool (HF.out (by omega))) (hb1.trans (hb2.mono (by simp)))
    · have hp : Dc.allDig s.data.toList = true := by assumption
      have hz : ¬ (s[0].toNat : Int) = 48 := by assumption
      refine RetB.of (congrArg Value.bool ?_) (hb1.trans (hb2.mono (by simp)))
      have hz' : ((s[0].toNat : Int) != 48) = true := by simpa using hz
      show (((s[0].toNat : Int) != 48) && !(Lib.hasSuffix s.data.toList [48])) = res
      rw [hz', Bool.true_and, Dc.hasSuffix_zero s h0']
      by_cases hl : (s[s.size - 1].toNat : Int) = 48
      · rw [decide_eq_true hl]; exact HF.out (by omega)
      · rw [decide_eq_false hl, HR.out, Dc.right_bytes_true s x h0' (by omega) (by omega) (by omega) hz hl hp]; rfl
    · have hp : ¬ Dc.allDig s.data.toList = true := by assumption
      refine RetB.of (congrArg Value.bool ?_) (hb1.trans (hb2.mono (by simp)))
      rw [HR.out, Dc.right_plain_false s x h0' (by simpa using hp)]
    all_goals exact RetB.of (congrArg Value.bool (HF.out (by omega))) hb1

theorem d_point_any (n : Bool) (s : ByteArray) (x : Int) (w : World) (hs : s.size ≤ 9223372036854775807) :
    Calls Tryz.prog 145 #[.agg #[.bool n, .string s, .int .i64 x]] w (RetB (.int .i64 (Dc.point s.data.toList x)) w) := by
  have hb1 : Below w.heap.size w (w.alloc (Obj.cells #[Value.bool n, Value.string s, Value.int IntKind.i64 x] 25)) := (Below.refl _ _).alloc (Nat.le_refl _) _
  obtain ⟨b, hr⟩ : ∃ b, b = Dc.right s.data.toList x := ⟨_, rfl⟩
  have hp := Dc.point_eq s x
  have HP := Lib.hid hp; clear hp
  have hd := d_right_any n s x (w.alloc (Obj.cells #[Value.bool n, Value.string s, Value.int IntKind.i64 x] 25)) hs
  rw [← hr] at hd
  have hx : b = true → -100000 ≤ x ∧ x ≤ 100000 ∧ s.size ≤ 1100 := fun h => by rw [hr] at h; exact ⟨(Dc.right_exp h).1, (Dc.right_exp h).2, by have := Dc.right_len h; simpa using this⟩
  cases b
  · have HD := Lib.hid hd; have HR := Lib.hid hr; clear hd hr
    go_enter Tryz.func145, Tryz.ntmps145
    go_wp2_with (first | (go_at_call 20; refine (HD.out).mono ?_; rintro e w1 ⟨rfl, hb2⟩; obtain ⟨hc, hf⟩ := bcell hb2))
    go_ret
    exact RetB.of (congrArg (Value.int .i64) (by rw [HP.out, ← HR.out]; rfl)) (hb1.trans (hb2.mono (by simp)))
  · have HD := Lib.hid hd; have HR := Lib.hid hr; clear hd hr
    have hx' := hx rfl; clear hx
    go_enter Tryz.func145, Tryz.ntmps145
    go_wp2_with (first | (go_at_call 20; refine (HD.out).mono ?_; rintro e w1 ⟨rfl, hb2⟩; obtain ⟨hc, hf⟩ := bcell hb2))
    go_ret
    exact RetB.of (congrArg (Value.int .i64) (by rw [HP.out, ← HR.out]; rfl)) (hb1.trans (hb2.mono (by simp)))
theorem r7_point_any (n : Bool) (s : ByteArray) (x : Int) (w : World) (hs : s.size ≤ 9223372036854775807) :
    Calls Tryz.prog 75 #[.agg #[.bool n, .string s, .int .i64 x]] w (RetB (.int .i64 (Dc.point s.data.toList x)) w) := by
  have hb1 : Below w.heap.size w (w.alloc (Obj.cells #[Value.bool n, Value.string s, Value.int IntKind.i64 x] 25)) := (Below.refl _ _).alloc (Nat.le_refl _) _
  obtain ⟨b, hr⟩ : ∃ b, b = Dc.right s.data.toList x := ⟨_, rfl⟩
  have hp := Dc.point_eq s x
  have HP := Lib.hid hp; clear hp
  have hd := r7_right_any n s x (w.alloc (Obj.cells #[Value.bool n, Value.string s, Value.int IntKind.i64 x] 25)) hs
  rw [← hr] at hd
  have hx : b = true → -100000 ≤ x ∧ x ≤ 100000 ∧ s.size ≤ 1100 := fun h => by rw [hr] at h; exact ⟨(Dc.right_exp h).1, (Dc.right_exp h).2, by have := Dc.right_len h; simpa using this⟩
  cases b
  · have HD := Lib.hid hd; have HR := Lib.hid hr; clear hd hr
    go_enter Tryz.func75, Tryz.ntmps75
    go_wp2_with (first | (go_at_call 91; refine (HD.out).mono ?_; rintro e w1 ⟨rfl, hb2⟩; obtain ⟨hc, hf⟩ := bcell hb2))
    go_ret
    exact RetB.of (congrArg (Value.int .i64) (by rw [HP.out, ← HR.out]; rfl)) (hb1.trans (hb2.mono (by simp)))
  · have HD := Lib.hid hd; have HR := Lib.hid hr; clear hd hr
    have hx' := hx rfl; clear hx
    go_enter Tryz.func75, Tryz.ntmps75
    go_wp2_with (first | (go_at_call 91; refine (HD.out).mono ?_; rintro e w1 ⟨rfl, hb2⟩; obtain ⟨hc, hf⟩ := bcell hb2))
    go_ret
    exact RetB.of (congrArg (Value.int .i64) (by rw [HP.out, ← HR.out]; rfl)) (hb1.trans (hb2.mono (by simp)))
end Go.Proofs.YtjnkbifafbjckaaGreatDoor

namespace Go.Proofs.YtjnkbifafbjckaaGreatDoor
set_option linter.all false
open Go.RowKit

theorem trimL0 (s : ByteArray) (w : World) : Calls Tryz.prog 174 #[.string s, .string ⟨#[48]⟩] w (Ret0 (.string ⟨(Dc.lead s.data.toList).toArray⟩) w) :=
  (Tryz.strings_TrimLeft_one s 48 (by decide) w).mono fun _ _ h => ⟨h.1, h.2.symm⟩
theorem trimR0 (s : ByteArray) (l : Dc.Bs) (w : World) (hl : s.data.toList = Dc.lead l) (hs : l.length ≤ 1000000000) : Calls Tryz.prog 175 #[.string s, .string ⟨#[48]⟩] w (Ret0 (.string ⟨(Dc.core l).toArray⟩) w) :=
  (Tryz.strings_TrimRight_one s 48 (by decide) w (by have h1 := congrArg List.length hl; have h2 := Dc.lead_len l; rw [bs_length] at h1; omega)).mono fun _ _ h => ⟨by rw [h.1, hl]; rfl, h.2.symm⟩

theorem retTuple {v v' : Value} {w w' : World} (h : v' = v) (hb : Below w.heap.size w w') : RetB v w (.returned v') w' := RetB.of h hb

set_option maxHeartbeats 400000 in
theorem d_make_small (n : Bool) (s : ByteArray) (x : Int) (w : World) (hs : s.size ≤ 1000000000) (hx : -1099511627776 ≤ x ∧ x < 1099511627776) :
    Calls Tryz.prog 133 #[.bool n, .string s, .int .i64 x] w (RetB (Dc.mk n s.data.toList x).val w) := by
  have h1 : (Dc.lead s.data.toList).length ≤ 1000000000 := by have := Dc.lead_len s.data.toList; rw [bs_length] at this; omega
  have h2 := Dc.core_len s.data.toList
  have h3 : (⟨(Dc.core s.data.toList).toArray⟩ : ByteArray).size ≤ 9223372036854775807 := by rw [size_mk]; omega
  obtain ⟨hx1, hx2⟩ := hx
  go_enter Tryz.func133, Tryz.ntmps133
  go_wp2_with (first
    | (go_at_call 73; (with_reducible refine (d_plain_any _ _).mono ?_); rintro e w1 ⟨rfl, hb_w1⟩; have hB_w1 : Below (w).heap.size (w) w1 := Below.trans (by (repeat (first | exact Below.refl _ _ | assumption | refine Below.setCell ?_ (by first | omega | (simp <;> omega)) _ | refine Below.alloc ?_ (by first | omega | (simp <;> omega)) _ | refine Below.drew ?_ | refine below_drewN' ?_ _))) (hb_w1.mono (by first | omega | (simp <;> omega))); obtain ⟨hc_w1, hf_w1⟩ := bcell hb_w1; have hz_w1 := hb_w1.size; (try simp only [size_drew', size_drewN', World.size_alloc, World.size_setCell] at hz_w1); have hl0_w1 : w.heap.size < w1.heap.size := (by omega); have hm0_w1 : w.heap.size ≤ w1.heap.size := (by omega); have hn0_w1 : ¬ w.heap.size = w1.heap.size := (by omega); have hq0_w1 : ¬ w1.heap.size = w.heap.size := (by omega); have hr0_w1 := fun o => hc_w1 (w.heap.size) o (by (try simp only [size_drew', size_drewN', World.size_alloc, World.size_setCell]); omega); have hg0_w1 := fun o => hf_w1 (w.heap.size) o (by (try simp only [size_drew', size_drewN', World.size_alloc, World.size_setCell]); omega))
    | (go_at_call 174; (with_reducible refine (trimL0 _ _).mono ?_); rintro e w' ⟨rfl, rfl⟩)
    | (go_at_call 175; (with_reducible refine (trimR0 _ s.data.toList _ (by simp) (by simpa using hs)).mono ?_); rintro e w' ⟨rfl, rfl⟩)
    | (go_at_call 20; (with_reducible refine (d_right_any _ ⟨(Dc.core s.data.toList).toArray⟩ _ _ h3).mono ?_); rintro e w3 ⟨rfl, hb_w3⟩; have hB_w3 : Below (w).heap.size (w) w3 := Below.trans (by (repeat (first | exact Below.refl _ _ | assumption | refine Below.setCell ?_ (by first | omega | (simp <;> omega)) _ | refine Below.alloc ?_ (by first | omega | (simp <;> omega)) _ | refine Below.drew ?_ | refine below_drewN' ?_ _))) (hb_w3.mono (by first | omega | (simp <;> omega))); obtain ⟨hc_w3, hf_w3⟩ := bcell hb_w3; have hz_w3 := hb_w3.size; (try simp only [size_drew', size_drewN', World.size_alloc, World.size_setCell] at hz_w3); have hl0_w3 : w.heap.size < w3.heap.size := (by omega); have hm0_w3 : w.heap.size ≤ w3.heap.size := (by omega); have hn0_w3 : ¬ w.heap.size = w3.heap.size := (by omega); have hq0_w3 : ¬ w3.heap.size = w.heap.size := (by omega); have hr0_w3 := fun o => hc_w3 (w.heap.size) o (by (try simp only [size_drew', size_drewN', World.size_alloc, World.size_setCell]); omega); have hg0_w3 := fun o => hf_w3 (w.heap.size) o (by (try simp only [size_drew', size_drewN', World.size_alloc, World.size_setCell]); omega)))
  · have h : (!Dc.allDig s.data.toList) = true := by assumption
    (refine bodyPost_ret (v := Dc.Res.val ⟨false, [], 0, 3⟩) (by (simp [results, Tryz.results133, go_sem, Dc.Res.val, hr0_w1, hl0_w1, hm0_w1, hn0_w1, hq0_w1]; done)) rfl (RetB.of (by rw [Dc.mk_bad (by simpa using h)]) (by (repeat (first | exact Below.refl _ _ | assumption | refine Below.setCell ?_ (by first | omega | (simp <;> omega)) _ | refine Below.alloc ?_ (by first | omega | (simp <;> omega)) _ | refine Below.drew ?_ | refine below_drewN' ?_ _)))))
  · have h0 : (!Dc.allDig s.data.toList) = false := by assumption
    have h : List.isEmpty (Dc.core s.data.toList) = true := by assumption
    have h' : Dc.core s.data.toList = [] := by simpa using h
    (refine bodyPost_ret (v := Dc.Res.val ⟨n, Dc.core s.data.toList, 0, 0⟩) (by (simp [results, Tryz.results133, go_sem, Dc.Res.val, hr0_w1, hl0_w1, hm0_w1, hn0_w1, hq0_w1]; done)) rfl (RetB.of (by rw [Dc.mk_zero (by simpa using h0) h', h']) (by (repeat (first | exact Below.refl _ _ | assumption | refine Below.setCell ?_ (by first | omega | (simp <;> omega)) _ | refine Below.alloc ?_ (by first | omega | (simp <;> omega)) _ | refine Below.drew ?_ | refine below_drewN' ?_ _)))))
  · have h0 : (!Dc.allDig s.data.toList) = false := by assumption
    have h : List.isEmpty (Dc.core s.data.toList) = false := by assumption
    have h2 : (!Dc.right (Dc.core s.data.toList) (x + (((Dc.lead s.data.toList).length : Int) - (Dc.core s.data.toList).length))) = true := by assumption
    (refine bodyPost_ret (v := Dc.Res.val ⟨false, [], 0, 2⟩) (by (simp [results, Tryz.results133, go_sem, Dc.Res.val, hr0_w1, hl0_w1, hm0_w1, hn0_w1, hq0_w1, hr0_w3, hl0_w3, hm0_w3, hn0_w3, hq0_w3]; done)) rfl (RetB.of (by rw [Dc.mk_over (by simpa using h0) (by simpa using h) (by rw [Dc.tz_int]; simpa using h2)]) (by (repeat (first | exact Below.refl _ _ | assumption | refine Below.setCell ?_ (by first | omega | (simp <;> omega)) _ | refine Below.alloc ?_ (by first | omega | (simp <;> omega)) _ | refine Below.drew ?_ | refine below_drewN' ?_ _)))))
  · have h0 : (!Dc.allDig s.data.toList) = false := by assumption
    have h : List.isEmpty (Dc.core s.data.toList) = false := by assumption
    have h2 : (!Dc.right (Dc.core s.data.toList) (x + (((Dc.lead s.data.toList).length : Int) - (Dc.core s.data.toList).length))) = false := by assumption
    (refine bodyPost_ret (v := Dc.Res.val ⟨n, Dc.core s.data.toList, x + (((Dc.lead s.data.toList).length : Int) - (Dc.core s.data.toList).length), 0⟩) (by (simp [results, Tryz.results133, go_sem, Dc.Res.val, hr0_w1, hl0_w1, hm0_w1, hn0_w1, hq0_w1, hr0_w3, hl0_w3, hm0_w3, hn0_w3, hq0_w3]; done)) rfl (RetB.of (by rw [Dc.mk_ok (by simpa using h0) (by simpa using h) (by rw [Dc.tz_int]; simpa using h2), Dc.tz_int]) (by (repeat (first | exact Below.refl _ _ | assumption | refine Below.setCell ?_ (by first | omega | (simp <;> omega)) _ | refine Below.alloc ?_ (by first | omega | (simp <;> omega)) _ | refine Below.drew ?_ | refine below_drewN' ?_ _)))))
set_option maxHeartbeats 400000 in
theorem d_make_lo (n : Bool) (s : ByteArray) (x : Int) (w : World) (hs : s.size ≤ 1000000000) (hx : -9223372036854775808 ≤ x ∧ x ≤ 9223372036854775807) (hf : x < -1099511627776) :
    Calls Tryz.prog 133 #[.bool n, .string s, .int .i64 x] w (RetB (Dc.mk n s.data.toList x).val w) := by
  have h1 : (Dc.lead s.data.toList).length ≤ 1000000000 := by have := Dc.lead_len s.data.toList; rw [bs_length] at this; omega
  have h2 := Dc.core_len s.data.toList
  have h3 : (⟨(Dc.core s.data.toList).toArray⟩ : ByteArray).size ≤ 9223372036854775807 := by rw [size_mk]; omega
  obtain ⟨hx1, hx2⟩ := hx
  have hn : Dc.core s.data.toList ≠ [] → _ := fun hne => Dc.far_not (by simpa using hs) hne (.inl hf)
  have HN := Lib.hid hn; clear hn
  go_enter Tryz.func133, Tryz.ntmps133
  go_wp2_with (first
    | (go_at_call 73; (with_reducible refine (d_plain_any _ _).mono ?_); rintro e w1 ⟨rfl, hb_w1⟩; have hB_w1 : Below (w).heap.size (w) w1 := Below.trans (by (repeat (first | exact Below.refl _ _ | assumption | refine Below.setCell ?_ (by first | omega | (simp <;> omega)) _ | refine Below.alloc ?_ (by first | omega | (simp <;> omega)) _ | refine Below.drew ?_ | refine below_drewN' ?_ _))) (hb_w1.mono (by first | omega | (simp <;> omega))); obtain ⟨hc_w1, hf_w1⟩ := bcell hb_w1; have hz_w1 := hb_w1.size; (try simp only [size_drew', size_drewN', World.size_alloc, World.size_setCell] at hz_w1); have hl0_w1 : w.heap.size < w1.heap.size := (by omega); have hm0_w1 : w.heap.size ≤ w1.heap.size := (by omega); have hn0_w1 : ¬ w.heap.size = w1.heap.size := (by omega); have hq0_w1 : ¬ w1.heap.size = w.heap.size := (by omega); have hr0_w1 := fun o => hc_w1 (w.heap.size) o (by (try simp only [size_drew', size_drewN', World.size_alloc, World.size_setCell]); omega); have hg0_w1 := fun o => hf_w1 (w.heap.size) o (by (try simp only [size_drew', size_drewN', World.size_alloc, World.size_setCell]); omega))
    | (go_at_call 174; (with_reducible refine (trimL0 _ _).mono ?_); rintro e w' ⟨rfl, rfl⟩)
    | (go_at_call 175; (with_reducible refine (trimR0 _ s.data.toList _ (by simp) (by simpa using hs)).mono ?_); rintro e w' ⟨rfl, rfl⟩)
    | (go_at_call 20; (with_reducible refine (d_right_any _ ⟨(Dc.core s.data.toList).toArray⟩ _ _ h3).mono ?_); rintro e w3 ⟨rfl, hb_w3⟩; have hB_w3 : Below (w).heap.size (w) w3 := Below.trans (by (repeat (first | exact Below.refl _ _ | assumption | refine Below.setCell ?_ (by first | omega | (simp <;> omega)) _ | refine Below.alloc ?_ (by first | omega | (simp <;> omega)) _ | refine Below.drew ?_ | refine below_drewN' ?_ _))) (hb_w3.mono (by first | omega | (simp <;> omega))); obtain ⟨hc_w3, hf_w3⟩ := bcell hb_w3; have hz_w3 := hb_w3.size; (try simp only [size_drew', size_drewN', World.size_alloc, World.size_setCell] at hz_w3); have hl0_w3 : w.heap.size < w3.heap.size := (by omega); have hm0_w3 : w.heap.size ≤ w3.heap.size := (by omega); have hn0_w3 : ¬ w.heap.size = w3.heap.size := (by omega); have hq0_w3 : ¬ w3.heap.size = w.heap.size := (by omega); have hr0_w3 := fun o => hc_w3 (w.heap.size) o (by (try simp only [size_drew', size_drewN', World.size_alloc, World.size_setCell]); omega); have hg0_w3 := fun o => hf_w3 (w.heap.size) o (by (try simp only [size_drew', size_drewN', World.size_alloc, World.size_setCell]); omega)))
  · have h : (!Dc.allDig s.data.toList) = true := by assumption
    (refine bodyPost_ret (v := Dc.Res.val ⟨false, [], 0, 3⟩) (by (simp [results, Tryz.results133, go_sem, Dc.Res.val, hr0_w1, hl0_w1, hm0_w1, hn0_w1, hq0_w1]; done)) rfl (RetB.of (by rw [Dc.mk_bad (by simpa using h)]) (by (repeat (first | exact Below.refl _ _ | assumption | refine Below.setCell ?_ (by first | omega | (simp <;> omega)) _ | refine Below.alloc ?_ (by first | omega | (simp <;> omega)) _ | refine Below.drew ?_ | refine below_drewN' ?_ _)))))
  · have h0 : (!Dc.allDig s.data.toList) = false := by assumption
    have h : List.isEmpty (Dc.core s.data.toList) = true := by assumption
    have h' : Dc.core s.data.toList = [] := by simpa using h
    (refine bodyPost_ret (v := Dc.Res.val ⟨n, Dc.core s.data.toList, 0, 0⟩) (by (simp [results, Tryz.results133, go_sem, Dc.Res.val, hr0_w1, hl0_w1, hm0_w1, hn0_w1, hq0_w1]; done)) rfl (RetB.of (by rw [Dc.mk_zero (by simpa using h0) h', h']) (by (repeat (first | exact Below.refl _ _ | assumption | refine Below.setCell ?_ (by first | omega | (simp <;> omega)) _ | refine Below.alloc ?_ (by first | omega | (simp <;> omega)) _ | refine Below.drew ?_ | refine below_drewN' ?_ _)))))
  · have h0 : (!Dc.allDig s.data.toList) = false := by assumption
    have h : List.isEmpty (Dc.core s.data.toList) = false := by assumption
    have hn := HN.out (by simpa using h)
    (refine bodyPost_ret (v := Dc.Res.val ⟨false, [], 0, 2⟩) (by (simp [results, Tryz.results133, go_sem, Dc.Res.val, hr0_w1, hl0_w1, hm0_w1, hn0_w1, hq0_w1, hr0_w3, hl0_w3, hm0_w3, hn0_w3, hq0_w3]; done)) rfl (RetB.of (by rw [Dc.mk_over (by simpa using h0) (by simpa using h) hn.1]) (by (repeat (first | exact Below.refl _ _ | assumption | refine Below.setCell ?_ (by first | omega | (simp <;> omega)) _ | refine Below.alloc ?_ (by first | omega | (simp <;> omega)) _ | refine Below.drew ?_ | refine below_drewN' ?_ _)))))
  · have h : List.isEmpty (Dc.core s.data.toList) = false := by assumption
    have h2 : (!Dc.right (Dc.core s.data.toList) x) = false := by assumption
    exact absurd (by simpa using h2) (HN.out (by simpa using h)).2

set_option maxHeartbeats 400000 in
theorem d_make_hi (n : Bool) (s : ByteArray) (x : Int) (w : World) (hs : s.size ≤ 1000000000) (hx : -9223372036854775808 ≤ x ∧ x ≤ 9223372036854775807) (hf : 1099511627776 ≤ x) :
    Calls Tryz.prog 133 #[.bool n, .string s, .int .i64 x] w (RetB (Dc.mk n s.data.toList x).val w) := by
  have h1 : (Dc.lead s.data.toList).length ≤ 1000000000 := by have := Dc.lead_len s.data.toList; rw [bs_length] at this; omega
  have h2 := Dc.core_len s.data.toList
  have h3 : (⟨(Dc.core s.data.toList).toArray⟩ : ByteArray).size ≤ 9223372036854775807 := by rw [size_mk]; omega
  obtain ⟨hx1, hx2⟩ := hx
  have hn : Dc.core s.data.toList ≠ [] → _ := fun hne => Dc.far_not (by simpa using hs) hne (.inr hf)
  have HN := Lib.hid hn; clear hn
  go_enter Tryz.func133, Tryz.ntmps133
  go_wp2_with (first
    | (go_at_call 73; (with_reducible refine (d_plain_any _ _).mono ?_); rintro e w1 ⟨rfl, hb_w1⟩; have hB_w1 : Below (w).heap.size (w) w1 := Below.trans (by (repeat (first | exact Below.refl _ _ | assumption | refine Below.setCell ?_ (by first | omega | (simp <;> omega)) _ | refine Below.alloc ?_ (by first | omega | (simp <;> omega)) _ | refine Below.drew ?_ | refine below_drewN' ?_ _))) (hb_w1.mono (by first | omega | (simp <;> omega))); obtain ⟨hc_w1, hf_w1⟩ := bcell hb_w1; have hz_w1 := hb_w1.size; (try simp only [size_drew', size_drewN', World.size_alloc, World.size_setCell] at hz_w1); have hl0_w1 : w.heap.size < w1.heap.size := (by omega); have hm0_w1 : w.heap.size ≤ w1.heap.size := (by omega); have hn0_w1 : ¬ w.heap.size = w1.heap.size := (by omega); have hq0_w1 : ¬ w1.heap.size = w.heap.size := (by omega); have hr0_w1 := fun o => hc_w1 (w.heap.size) o (by (try simp only [size_drew', size_drewN', World.size_alloc, World.size_setCell]); omega); have hg0_w1 := fun o => hf_w1 (w.heap.size) o (by (try simp only [size_drew', size_drewN', World.size_alloc, World.size_setCell]); omega))
    | (go_at_call 174; (with_reducible refine (trimL0 _ _).mono ?_); rintro e w' ⟨rfl, rfl⟩)
    | (go_at_call 175; (with_reducible refine (trimR0 _ s.data.toList _ (by simp) (by simpa using hs)).mono ?_); rintro e w' ⟨rfl, rfl⟩)
    | (go_at_call 20; (with_reducible refine (d_right_any _ ⟨(Dc.core s.data.toList).toArray⟩ _ _ h3).mono ?_); rintro e w3 ⟨rfl, hb_w3⟩; have hB_w3 : Below (w).heap.size (w) w3 := Below.trans (by (repeat (first | exact Below.refl _ _ | assumption | refine Below.setCell ?_ (by first | omega | (simp <;> omega)) _ | refine Below.alloc ?_ (by first | omega | (simp <;> omega)) _ | refine Below.drew ?_ | refine below_drewN' ?_ _))) (hb_w3.mono (by first | omega | (simp <;> omega))); obtain ⟨hc_w3, hf_w3⟩ := bcell hb_w3; have hz_w3 := hb_w3.size; (try simp only [size_drew', size_drewN', World.size_alloc, World.size_setCell] at hz_w3); have hl0_w3 : w.heap.size < w3.heap.size := (by omega); have hm0_w3 : w.heap.size ≤ w3.heap.size := (by omega); have hn0_w3 : ¬ w.heap.size = w3.heap.size := (by omega); have hq0_w3 : ¬ w3.heap.size = w.heap.size := (by omega); have hr0_w3 := fun o => hc_w3 (w.heap.size) o (by (try simp only [size_drew', size_drewN', World.size_alloc, World.size_setCell]); omega); have hg0_w3 := fun o => hf_w3 (w.heap.size) o (by (try simp only [size_drew', size_drewN', World.size_alloc, World.size_setCell]); omega)))
  · have h : (!Dc.allDig s.data.toList) = true := by assumption
    (refine bodyPost_ret (v := Dc.Res.val ⟨false, [], 0, 3⟩) (by (simp [results, Tryz.results133, go_sem, Dc.Res.val, hr0_w1, hl0_w1, hm0_w1, hn0_w1, hq0_w1]; done)) rfl (RetB.of (by rw [Dc.mk_bad (by simpa using h)]) (by (repeat (first | exact Below.refl _ _ | assumption | refine Below.setCell ?_ (by first | omega | (simp <;> omega)) _ | refine Below.alloc ?_ (by first | omega | (simp <;> omega)) _ | refine Below.drew ?_ | refine below_drewN' ?_ _)))))
  · have h0 : (!Dc.allDig s.data.toList) = false := by assumption
    have h : List.isEmpty (Dc.core s.data.toList) = true := by assumption
    have h' : Dc.core s.data.toList = [] := by simpa using h
    (refine bodyPost_ret (v := Dc.Res.val ⟨n, Dc.core s.data.toList, 0, 0⟩) (by (simp [results, Tryz.results133, go_sem, Dc.Res.val, hr0_w1, hl0_w1, hm0_w1, hn0_w1, hq0_w1]; done)) rfl (RetB.of (by rw [Dc.mk_zero (by simpa using h0) h', h']) (by (repeat (first | exact Below.refl _ _ | assumption | refine Below.setCell ?_ (by first | omega | (simp <;> omega)) _ | refine Below.alloc ?_ (by first | omega | (simp <;> omega)) _ | refine Below.drew ?_ | refine below_drewN' ?_ _)))))
  · have h0 : (!Dc.allDig s.data.toList) = false := by assumption
    have h : List.isEmpty (Dc.core s.data.toList) = false := by assumption
    have hn := HN.out (by simpa using h)
    (refine bodyPost_ret (v := Dc.Res.val ⟨false, [], 0, 2⟩) (by (simp [results, Tryz.results133, go_sem, Dc.Res.val, hr0_w1, hl0_w1, hm0_w1, hn0_w1, hq0_w1, hr0_w3, hl0_w3, hm0_w3, hn0_w3, hq0_w3]; done)) rfl (RetB.of (by rw [Dc.mk_over (by simpa using h0) (by simpa using h) hn.1]) (by (repeat (first | exact Below.refl _ _ | assumption | refine Below.setCell ?_ (by first | omega | (simp <;> omega)) _ | refine Below.alloc ?_ (by first | omega | (simp <;> omega)) _ | refine Below.drew ?_ | refine below_drewN' ?_ _)))))
  · have h : List.isEmpty (Dc.core s.data.toList) = false := by assumption
    have h2 : (!Dc.right (Dc.core s.data.toList) x) = false := by assumption
    exact absurd (by simpa using h2) (HN.out (by simpa using h)).2

theorem d_make_any (n : Bool) (s : ByteArray) (x : Int) (w : World) (hs : s.size ≤ 1000000000) (hx : -9223372036854775808 ≤ x ∧ x ≤ 9223372036854775807) :
    Calls Tryz.prog 133 #[.bool n, .string s, .int .i64 x] w (RetB (Dc.mk n s.data.toList x).val w) := by
  by_cases h : x < -1099511627776
  · exact d_make_lo n s x w hs hx h
  · by_cases h' : x < 1099511627776
    · exact d_make_small n s x w hs ⟨by omega, h'⟩
    · exact d_make_hi n s x w hs hx (by omega)

end Go.Proofs.YtjnkbifafbjckaaGreatDoor
