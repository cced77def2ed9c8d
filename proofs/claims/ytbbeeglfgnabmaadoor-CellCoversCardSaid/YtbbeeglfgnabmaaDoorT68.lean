/- The corners of an area, whatever the two cells. -/
import Derived.Test.YtbbeeglfgnabmaaDoorT54
namespace Go.Proofs.YtbbeeglfgnabmaaDoor
set_option linter.all false
open Go.RowKit

theorem ce_corners_any (a b : Ce.Rf) (w : World) : Calls Tryd.prog 43 #[rv a, rv b] w (RetB (cornersV a b) w) := by
  obtain ⟨c, d, x, y⟩ := a
  obtain ⟨c', d', x', y'⟩ := b
  unfold cornersV Ce.both
  cases h : Ce.right ⟨c, d, x, y⟩ with
  | false => rw [Bool.false_and, if_neg (by simp)]; exact ce_corners_n1 c d x y c' d' x' y' w h
  | true =>
    cases h' : Ce.right ⟨c', d', x', y'⟩ with
    | false => rw [Bool.and_false, if_neg (by simp)]; exact ce_corners_n2 c d x y c' d' x' y' w h h'
    | true =>
      rw [Bool.and_self, if_pos rfl]
      exact ce_corners_y c d x y c' d' x' y' w h h'
end Go.Proofs.YtbbeeglfgnabmaaDoor
