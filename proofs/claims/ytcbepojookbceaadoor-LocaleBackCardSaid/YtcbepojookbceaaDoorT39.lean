import Derived.Test.YtcbepojookbceaaDoorBase
import Derived.Test.YtcbepojookbceaaDoorDec
namespace Go.Proofs.YtcbepojookbceaaDoor
set_option linter.all false
open Go.RowKit

/-- Which of six. -/
def pickC (c : Int) : Int := (if c < 0 then -(c + 1) else c) % 6
theorem pickC_lt (c : Int) : 0 ≤ pickC c ∧ pickC c < 6 := by unfold pickC; omega

theorem l11_pick_any (c : Int) (w : World) (hc : -9223372036854775808 ≤ c ∧ c ≤ 9223372036854775807) : Calls Tryd.prog 41 #[.int .i64 c, .int .i64 6] w (Ret0 (.int .i64 (pickC c)) w) := by
  obtain ⟨r, hr⟩ : ∃ r, r = pickC c := ⟨_, rfl⟩
  rw [← hr]
  unfold pickC at hr
  obtain ⟨hc1, hc2⟩ := hc
  by_cases h : c < 0
  · rw [if_pos h] at hr
    have h1 : 0 ≤ -(c + 1) := by omega
    have HR := Lib.hid hr; clear hr
    go_enter Tryd.func41, Tryd.ntmps41
    go_wp2
    go_ret
    exact Ret0.of (congrArg (Value.int .i64) (by rw [HR.out, ← Int.neg_tmod, Int.tmod_eq_emod_of_nonneg (by omega)]))
  · rw [if_neg h] at hr
    have h1 : 0 ≤ c := by omega
    have HR := Lib.hid hr; clear hr
    go_enter Tryd.func41, Tryd.ntmps41
    go_wp2
    go_ret
    exact Ret0.of (congrArg (Value.int .i64) HR.out.symm)

theorem all_drop_cons' (s : ByteArray) (k : Nat) (h : k < s.size) : (s.data.toList.drop k).all Dc.isDig = (Dc.isDig s[k] && (s.data.toList.drop (k + 1)).all Dc.isDig) := all_drop_cons s k h _

set_option maxHeartbeats 400000 in
theorem l11_digits_any (s : ByteArray) (w : World) (hs : s.size ≤ 9223372036854775807) : Calls Tryd.prog 16 #[.string s] w (Ret0 (.bool (Dc.allDig s.data.toList)) w) := by
  obtain ⟨r, hr⟩ : ∃ r, r = Dc.allDig s.data.toList := ⟨_, rfl⟩
  rw [← hr]
  have HR := Lib.hid hr; clear hr
  go_enter Tryd.func16, Tryd.ntmps16
  go_wp2_with fail
  go_loop [3] (fun i => ∃ k : Nat, k ≤ s.size ∧ i = .int .i64 k ∧ r = (s.data.toList.drop k).all Dc.isDig) (fun i => s.size - (intOf i).toNat)
  case atStart => exact ⟨0, Nat.zero_le _, rfl, HR.out⟩
  case round =>
    obtain ⟨k, hk, rfl, hr⟩ := hrel
    have HK := Lib.hid hr; clear hr
    by_cases hlt : k < s.size
    · have hac := all_drop_cons' s k hlt
      have HAC := Lib.hid hac; clear hac
      go_wp2
      all_goals first
        | (go_ret
           exact Ret0.of (congrArg Value.bool (by
             have hd : Dc.isDig s[k] = false := by simp [Dc.isDig]; omega
             rw [HK.out, HAC.out, hd]; rfl)))
        | (go_round
           case rel =>
             have hd : Dc.isDig s[k] = true := by simp [Dc.isDig]; omega
             exact ⟨k + 1, by omega, by go_num, by rw [HK.out, HAC.out, hd]; rfl⟩
           case measure => simp [intOf]; omega)
    · have hv : r = true := by rw [HK.out, List.drop_of_length_le (by rw [bs_length]; omega)]; rfl
      have HV := Lib.hid hv; clear hv
      go_wp2
      go_ret
      exact Ret0.of (congrArg Value.bool HV.out.symm)
end Go.Proofs.YtcbepojookbceaaDoor
