/- Small functions of chapter 15's statements: a reference out of two numbers. -/
import Derived.Test.YtbbeeglfgnabmaaDoorT50
namespace Go.Proofs.YtbbeeglfgnabmaaDoor
set_option linter.all false
open Go.RowKit

theorem l15_ref_any (c d : Int) (w : World) : Calls Tryd.prog 20 #[.int .i64 c, .int .i64 d] w (RetB (.agg #[.int .i64 c, .int .i64 d, .bool false, .bool false]) w) := by
  go_enter Tryd.func20, Tryd.ntmps20
  go_wp2
  (refine bodyPost_ret (v := .agg #[.int .i64 c, .int .i64 d, .bool false, .bool false]) (by (simp [results, Tryd.results20, go_sem]; done)) rfl (RetB.of rfl (by (repeat (first | exact Below.refl _ _ | assumption | refine Below.setCell ?_ (by first | omega | (simp <;> omega)) _ | refine Below.alloc ?_ (by first | omega | (simp <;> omega)) _ | refine Below.drew ?_ | refine below_drewN' ?_ _)))))
end Go.Proofs.YtbbeeglfgnabmaaDoor
