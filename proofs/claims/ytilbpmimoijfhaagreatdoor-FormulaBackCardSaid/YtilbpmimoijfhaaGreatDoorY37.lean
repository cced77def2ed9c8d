/- The reference of chapter 10: Abs, Dec. -/
import Derived.Test.YtilbpmimoijfhaaGreatDoorY34
namespace Go.Proofs.YtilbpmimoijfhaaGreatDoor
set_option linter.all false
set_option maxRecDepth 100000
set_option maxHeartbeats 16000000
open Go.RowKit Go.Proofs.Tryz
section
attribute [local go_sem] yeR
end
end Go.Proofs.YtilbpmimoijfhaaGreatDoor
