/- Kinds of bytes, and what is cut off the front, by the program. -/
import Derived.Test.YtbbeeglfgnabmaaDoorBase
import Derived.Test.YtbbeeglfgnabmaaDoorCell
import Derived.Test.YtbbeeglfgnabmaaDoorShelf
namespace Go.Proofs.YtbbeeglfgnabmaaDoor
set_option linter.all false
open Go.RowKit

def letN (x : Nat) : Bool := (decide (65 ≤ (x : Int)) && decide ((x : Int) ≤ 90)) || (decide (97 ≤ (x : Int)) && decide ((x : Int) ≤ 122))
def digN (x : Nat) : Bool := decide (48 ≤ (x : Int)) && decide ((x : Int) ≤ 57)

theorem ce_letter_any (x : Nat) (w : World) : Calls Tryd.prog 33 #[.int .i32 x] w (Ret0 (.bool (letN x)) w) := by
  obtain ⟨v, hv⟩ : ∃ v, v = letN x := ⟨_, rfl⟩
  rw [← hv]
  unfold letN at hv
  by_cases h1 : 65 ≤ (x : Int)
  · by_cases h2 : (x : Int) ≤ 90
    · have he : v = true := by rw [hv]; simp; omega
      have HE := Lib.hid he; clear hv he
      go_enter Tryd.func33, Tryd.ntmps33
      go_wp2
      go_ret
      exact Ret0.of (congrArg Value.bool HE.out.symm)
    · by_cases h3 : 97 ≤ (x : Int)
      · by_cases h4 : (x : Int) ≤ 122
        · have he : v = true := by rw [hv]; simp; omega
          have HE := Lib.hid he; clear hv he
          go_enter Tryd.func33, Tryd.ntmps33
          go_wp2
          go_ret
          exact Ret0.of (congrArg Value.bool HE.out.symm)
        · have he : v = false := by rw [hv]; simp; omega
          have HE := Lib.hid he; clear hv he
          go_enter Tryd.func33, Tryd.ntmps33
          go_wp2
          go_ret
          exact Ret0.of (congrArg Value.bool HE.out.symm)
      · have he : v = false := by rw [hv]; simp; omega
        have HE := Lib.hid he; clear hv he
        go_enter Tryd.func33, Tryd.ntmps33
        go_wp2
        go_ret
        exact Ret0.of (congrArg Value.bool HE.out.symm)
  · have h3 : ¬ 97 ≤ (x : Int) := by omega
    have he : v = false := by rw [hv]; simp; omega
    have HE := Lib.hid he; clear hv he
    go_enter Tryd.func33, Tryd.ntmps33
    go_wp2
    go_ret
    exact Ret0.of (congrArg Value.bool HE.out.symm)

theorem ce_digit_any (x : Nat) (w : World) : Calls Tryd.prog 34 #[.int .i32 x] w (Ret0 (.bool (digN x)) w) := by
  obtain ⟨v, hv⟩ : ∃ v, v = digN x := ⟨_, rfl⟩
  rw [← hv]
  unfold digN at hv
  by_cases h1 : 48 ≤ (x : Int)
  · by_cases h2 : (x : Int) ≤ 57
    · have he : v = true := by rw [hv]; simp; omega
      have HE := Lib.hid he; clear hv he
      go_enter Tryd.func34, Tryd.ntmps34
      go_wp2
      go_ret
      exact Ret0.of (congrArg Value.bool HE.out.symm)
    · have he : v = false := by rw [hv]; simp; omega
      have HE := Lib.hid he; clear hv he
      go_enter Tryd.func34, Tryd.ntmps34
      go_wp2
      go_ret
      exact Ret0.of (congrArg Value.bool HE.out.symm)
  · have he : v = false := by rw [hv]; simp; omega
    have HE := Lib.hid he; clear hv he
    go_enter Tryd.func34, Tryd.ntmps34
    go_wp2
    go_ret
    exact Ret0.of (congrArg Value.bool HE.out.symm)
end Go.Proofs.YtbbeeglfgnabmaaDoor
