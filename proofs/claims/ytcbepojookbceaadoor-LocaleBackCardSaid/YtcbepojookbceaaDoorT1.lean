import Derived.Test.YtcbepojookbceaaDoorBase
import Derived.Test.YtcbepojookbceaaDoorDec
namespace Go.Proofs.YtcbepojookbceaaDoor
set_option linter.all false
open Go.RowKit

theorem r7_digit_any (c : UInt8) (w : World) : Calls Tryd.prog 48 #[.int .u8 c.toNat] w (Ret0 (.bool (Dc.isDig c)) w) := by
  have h1 : (decide (48 ≤ (c.toNat : Int)) && decide ((c.toNat : Int) ≤ 57)) = Dc.isDig c := rfl
  have H1 := Lib.hid h1; clear h1
  by_cases h : 48 ≤ (c.toNat : Int)
  · go_enter Tryd.func48, Tryd.ntmps48
    go_wp2
    go_ret
    exact Ret0.of (by rw [← H1.out]; simp [h])
  · go_enter Tryd.func48, Tryd.ntmps48
    go_wp2
    go_ret
    exact Ret0.of (by rw [← H1.out, decide_eq_false (by omega)]; rfl)

set_option maxHeartbeats 400000 in
theorem r7_right_any (n : Bool) (s : ByteArray) (x : Int) (w : World) (hs : s.size ≤ 9223372036854775807) :
    Calls Tryd.prog 23 #[.agg #[.bool n, .string s, .int .i64 x]] w (RetB (.bool (Dc.right s.data.toList x)) w) := by
  have hb1 : Below w.heap.size w (w.alloc (Obj.cells #[Value.bool n, Value.string s, Value.int IntKind.i64 x] 36)) := (Below.refl _ _).alloc (Nat.le_refl _) _
  by_cases h0 : s.size = 0
  · have H0 := Lib.hid h0
    replace h0 : s.size ≤ 0 := by omega
    go_enter Tryd.func23, Tryd.ntmps23
    go_wp2_with fail
    go_ret
    exact RetB.of (congrArg Value.bool (Dc.right_nil _ _ (by simpa using H0.out)).symm) hb1
  · replace h0 : 0 < s.size := by omega
    by_cases hall : s.size ≤ 1100 ∧ -100000 ≤ x ∧ x ≤ 100000 ∧ ¬ (s[0].toNat : Int) = 48 ∧ ¬ (s[s.size - 1].toNat : Int) = 48
    · obtain ⟨n2, n3, n4, n0, n1⟩ := hall
      have b0 : ((s[0].toNat : Int) == 48) = false := by simpa using n0
      have b1 : ((s[s.size - 1].toNat : Int) == 48) = false := by simpa using n1
      go_enter Tryd.func23, Tryd.ntmps23
      go_wp2_with fail
      go_loop [4] (fun i => ∃ k : Nat, k ≤ s.size ∧ i = .int .i64 k ∧ (s.data.toList.take k).all Dc.isDig = true) (fun i => s.size - (intOf i).toNat)
      case atStart => exact ⟨0, Nat.zero_le _, rfl, rfl⟩
      case round =>
        obtain ⟨k, hk, rfl, hall⟩ := hrel
        have HA := Lib.hid hall; clear hall
        by_cases hlt : k < s.size
        · have hsn := Lib.hid (all_take_snoc s k hlt Dc.isDig)
          go_wp2_with (go_at_call 48; refine (r7_digit_any _ _).mono ?_; rintro e w' ⟨rfl, rfl⟩)
          · have hd : (!Dc.isDig s[k]) = true := by assumption
            go_ret
            exact RetB.of (congrArg Value.bool (Dc.right_bytes_nodig s x k hlt (by simpa using hd)).symm) hb1
          · have hd : (!Dc.isDig s[k]) = false := by assumption
            go_round
            case rel => exact ⟨k + 1, by omega, by go_num, by rw [hsn.out, HA.out]; simpa using hd⟩
            case measure => simp [intOf]; omega
        · go_wp2
          go_ret
          exact RetB.of (congrArg Value.bool (Dc.right_bytes_true s x h0 n2 n3 n4 n0 n1 (by have := HA.out; rwa [List.take_of_length_le (by simp; omega)] at this)).symm) hb1
    · have HN := Lib.hid hall; clear hall
      go_enter Tryd.func23, Tryd.ntmps23
      go_wp2_with fail
      all_goals first
        | (go_ret; exact RetB.of (congrArg Value.bool (Dc.right_bytes_false s x h0 (by first | omega | (simp only [beq_iff_eq] at *; omega))).symm) hb1)
        | (exfalso; have := HN.out; simp only [beq_eq_false_iff_ne, ne_eq] at *; omega)
end Go.Proofs.YtcbepojookbceaaDoor
