/- What the cards of chapter 1 take of the listed variables: the table of powers of ten. -/
import Derived.Test.YtcdndcbfmlnpjaaGreatDoorRows
import Derived.Test.YtcdndcbfmlnpjaaGreatDoorN15
import Derived.ProofKit
import Derived.Lib.LaidTab
namespace Go.Proofs.YtcdndcbfmlnpjaaGreatDoor
set_option linter.all false
open Go.ChangeShapes Go.WideShapes Go.ChangeAt Go.RowKit

theorem own : ownKnob Tryz.prog.godebug = none := by kernel_rfl
theorem gTab : Tryz.prog.globalNamed "internal/strconv.uint64pow10" = some 4 := by kernel_rfl

/-- What the row's list gives: the table of powers of ten, now and behind whatever the call lays. -/
theorem tab_of_laid {W : World} (h2 : laidMetH Tryz.prog [("internal/strconv.uint64pow10", Rows.laid_internal_strconv_uint64pow10)] W) : Tab W := by
  have h3 : Lib.TabIs Tryz.prog W "internal/strconv.uint64pow10" .u64 [1, 10, 100, 1000, 10000, 100000, 1000000, 10000000, 100000000, 1000000000, 10000000000, 100000000000, 1000000000000, 10000000000000, 100000000000000, 1000000000000000, 10000000000000000, 100000000000000000, 1000000000000000000, 10000000000000000000] :=
    Lib.tabIs_of_head (rest := []) gTab (show (Tryz.prog.globals[4]?).map (·.type) = some 154 by kernel_rfl) Tryz.underlying154 Tryz.underlying23 (show Tryz.prog.cellsOf 23 = 1 by kernel_rfl) (show Tryz.prog.cellsOf 154 = 20 by kernel_rfl) h2
  have h4 : Lib.TabIs Tryz.prog W "internal/strconv.uint64pow10" .u64 Lib.pow10Tab := by
    rw [show Lib.pow10Tab = [1, 10, 100, 1000, 10000, 100000, 1000000, 10000000, 100000000, 1000000000, 10000000000, 100000000000, 1000000000000, 10000000000000, 100000000000000, 1000000000000000, 10000000000000000, 100000000000000000, 1000000000000000000, 10000000000000000000] from by kernel_rfl]; exact h3
  exact Lib.tabBelow_of_tabIs h4
end Go.Proofs.YtcdndcbfmlnpjaaGreatDoor
