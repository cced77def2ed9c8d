/- Whether a reference is right, by the program and by the reference. -/
import Derived.Test.YtbbeeglfgnabmaaDoorBase
import Derived.Test.YtbbeeglfgnabmaaDoorCell
namespace Go.Proofs.YtbbeeglfgnabmaaDoor
set_option linter.all false
open Go.RowKit

/-- A reference as a value. -/
def rv (r : Ce.Rf) : Value := .agg #[.int .i64 r.col, .int .i64 r.row, .bool r.ac, .bool r.ar]

theorem ce_right_any (c d : Int) (a b : Bool) (w : World) : Calls Tryd.prog 12 #[.agg #[.int .i64 c, .int .i64 d, .bool a, .bool b]] w (RetB (.bool (Ce.right ⟨c, d, a, b⟩)) w) := by
  obtain ⟨v, hv⟩ : ∃ v, v = Ce.right ⟨c, d, a, b⟩ := ⟨_, rfl⟩
  rw [← hv]
  unfold Ce.right at hv
  by_cases h1 : 0 ≤ c
  · by_cases h2 : c < 64
    · by_cases h3 : 0 ≤ d
      · by_cases h4 : d < 1000
        · have he : v = true := by rw [hv]; simp [h1, h2, h3, h4]
          have HE := Lib.hid he; clear hv he
          go_enter Tryd.func12, Tryd.ntmps12
          go_wp2
          go_ret
          exact RetB.of (congrArg Value.bool HE.out.symm) (by (repeat (first | exact Below.refl _ _ | assumption | refine Below.setCell ?_ (by first | omega | (simp <;> omega)) _ | refine Below.alloc ?_ (by first | omega | (simp <;> omega)) _ | refine Below.drew ?_ | refine below_drewN' ?_ _)))
        · have he : v = false := by rw [hv]; simp [h4]
          have HE := Lib.hid he; clear hv he
          go_enter Tryd.func12, Tryd.ntmps12
          go_wp2
          go_ret
          exact RetB.of (congrArg Value.bool HE.out.symm) (by (repeat (first | exact Below.refl _ _ | assumption | refine Below.setCell ?_ (by first | omega | (simp <;> omega)) _ | refine Below.alloc ?_ (by first | omega | (simp <;> omega)) _ | refine Below.drew ?_ | refine below_drewN' ?_ _)))
      · have he : v = false := by rw [hv]; simp [h3]
        have HE := Lib.hid he; clear hv he
        go_enter Tryd.func12, Tryd.ntmps12
        go_wp2
        go_ret
        exact RetB.of (congrArg Value.bool HE.out.symm) (by (repeat (first | exact Below.refl _ _ | assumption | refine Below.setCell ?_ (by first | omega | (simp <;> omega)) _ | refine Below.alloc ?_ (by first | omega | (simp <;> omega)) _ | refine Below.drew ?_ | refine below_drewN' ?_ _)))
    · have he : v = false := by rw [hv]; simp [h2]
      have HE := Lib.hid he; clear hv he
      go_enter Tryd.func12, Tryd.ntmps12
      go_wp2
      go_ret
      exact RetB.of (congrArg Value.bool HE.out.symm) (by (repeat (first | exact Below.refl _ _ | assumption | refine Below.setCell ?_ (by first | omega | (simp <;> omega)) _ | refine Below.alloc ?_ (by first | omega | (simp <;> omega)) _ | refine Below.drew ?_ | refine below_drewN' ?_ _)))
  · have he : v = false := by rw [hv]; simp [h1]
    have HE := Lib.hid he; clear hv he
    go_enter Tryd.func12, Tryd.ntmps12
    go_wp2
    go_ret
    exact RetB.of (congrArg Value.bool HE.out.symm) (by (repeat (first | exact Below.refl _ _ | assumption | refine Below.setCell ?_ (by first | omega | (simp <;> omega)) _ | refine Below.alloc ?_ (by first | omega | (simp <;> omega)) _ | refine Below.drew ?_ | refine below_drewN' ?_ _)))

theorem r15_right_any (c d : Int) (a b : Bool) (w : World) : Calls Tryd.prog 13 #[.agg #[.int .i64 c, .int .i64 d, .bool a, .bool b]] w (RetB (.bool (Ce.right ⟨c, d, a, b⟩)) w) := by
  obtain ⟨v, hv⟩ : ∃ v, v = Ce.right ⟨c, d, a, b⟩ := ⟨_, rfl⟩
  rw [← hv]
  unfold Ce.right at hv
  by_cases h1 : 0 ≤ c
  · by_cases h2 : c < 64
    · by_cases h3 : 0 ≤ d
      · by_cases h4 : d < 1000
        · have he : v = true := by rw [hv]; simp [h1, h2, h3, h4]
          have HE := Lib.hid he; clear hv he
          go_enter Tryd.func13, Tryd.ntmps13
          go_wp2
          go_ret
          exact RetB.of (congrArg Value.bool HE.out.symm) (by (repeat (first | exact Below.refl _ _ | assumption | refine Below.setCell ?_ (by first | omega | (simp <;> omega)) _ | refine Below.alloc ?_ (by first | omega | (simp <;> omega)) _ | refine Below.drew ?_ | refine below_drewN' ?_ _)))
        · have he : v = false := by rw [hv]; simp [h4]
          have HE := Lib.hid he; clear hv he
          go_enter Tryd.func13, Tryd.ntmps13
          go_wp2
          go_ret
          exact RetB.of (congrArg Value.bool HE.out.symm) (by (repeat (first | exact Below.refl _ _ | assumption | refine Below.setCell ?_ (by first | omega | (simp <;> omega)) _ | refine Below.alloc ?_ (by first | omega | (simp <;> omega)) _ | refine Below.drew ?_ | refine below_drewN' ?_ _)))
      · have he : v = false := by rw [hv]; simp [h3]
        have HE := Lib.hid he; clear hv he
        go_enter Tryd.func13, Tryd.ntmps13
        go_wp2
        go_ret
        exact RetB.of (congrArg Value.bool HE.out.symm) (by (repeat (first | exact Below.refl _ _ | assumption | refine Below.setCell ?_ (by first | omega | (simp <;> omega)) _ | refine Below.alloc ?_ (by first | omega | (simp <;> omega)) _ | refine Below.drew ?_ | refine below_drewN' ?_ _)))
    · have he : v = false := by rw [hv]; simp [h2]
      have HE := Lib.hid he; clear hv he
      go_enter Tryd.func13, Tryd.ntmps13
      go_wp2
      go_ret
      exact RetB.of (congrArg Value.bool HE.out.symm) (by (repeat (first | exact Below.refl _ _ | assumption | refine Below.setCell ?_ (by first | omega | (simp <;> omega)) _ | refine Below.alloc ?_ (by first | omega | (simp <;> omega)) _ | refine Below.drew ?_ | refine below_drewN' ?_ _)))
  · have he : v = false := by rw [hv]; simp [h1]
    have HE := Lib.hid he; clear hv he
    go_enter Tryd.func13, Tryd.ntmps13
    go_wp2
    go_ret
    exact RetB.of (congrArg Value.bool HE.out.symm) (by (repeat (first | exact Below.refl _ _ | assumption | refine Below.setCell ?_ (by first | omega | (simp <;> omega)) _ | refine Below.alloc ?_ (by first | omega | (simp <;> omega)) _ | refine Below.drew ?_ | refine below_drewN' ?_ _)))
end Go.Proofs.YtbbeeglfgnabmaaDoor
