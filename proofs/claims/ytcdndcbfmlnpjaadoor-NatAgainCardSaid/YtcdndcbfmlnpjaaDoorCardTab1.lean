/- What the cards of chapter 1 take of the listed variables: the table of powers of ten. -/
import Derived.Test.YtcdndcbfmlnpjaaDoorRows
import Derived.Test.YtcdndcbfmlnpjaaDoorN15
import Derived.ProofKit
import Derived.Lib.LaidTab
namespace Go.Proofs.YtcdndcbfmlnpjaaDoor
set_option linter.all false
open Go.ChangeShapes Go.WideShapes Go.ChangeAt Go.RowKit

theorem own : ownKnob Tryd.prog.godebug = none := by kernel_rfl
theorem gTab : Tryd.prog.globalNamed "internal/strconv.uint64pow10" = some 2 := by kernel_rfl

/-- What the row's list gives: the table of powers of ten, now and behind whatever the call lays. -/
theorem tab_of_laid {W : World} (h2 : laidMetH Tryd.prog [("internal/strconv.uint64pow10", Rows.laid_internal_strconv_uint64pow10)] W) : Tab W := by
  have h3 : Lib.TabIs Tryd.prog W "internal/strconv.uint64pow10" .u64 [1, 10, 100, 1000, 10000, 100000, 1000000, 10000000, 100000000, 1000000000, 10000000000, 100000000000, 1000000000000, 10000000000000, 100000000000000, 1000000000000000, 10000000000000000, 100000000000000000, 1000000000000000000, 10000000000000000000] :=
    Lib.tabIs_of_head (rest := []) gTab (show (Tryd.prog.globals[2]?).map (·.type) = some 119 by kernel_rfl) Tryd.underlying119 Tryd.underlying47 (show Tryd.prog.cellsOf 47 = 1 by kernel_rfl) (show Tryd.prog.cellsOf 119 = 20 by kernel_rfl) h2
  have h4 : Lib.TabIs Tryd.prog W "internal/strconv.uint64pow10" .u64 Lib.pow10Tab := by
    rw [show Lib.pow10Tab = [1, 10, 100, 1000, 10000, 100000, 1000000, 10000000, 100000000, 1000000000, 10000000000, 100000000000, 1000000000000, 10000000000000, 100000000000000, 1000000000000000, 10000000000000000, 100000000000000000, 1000000000000000000, 10000000000000000000] from by kernel_rfl]; exact h3
  exact Lib.tabBelow_of_tabIs h4
end Go.Proofs.YtcdndcbfmlnpjaaDoor
