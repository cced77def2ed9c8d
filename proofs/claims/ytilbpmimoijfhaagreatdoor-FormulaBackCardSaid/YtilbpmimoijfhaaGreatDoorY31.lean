/- The reference: a right decimal's bits, the two long ways. -/
import Derived.Test.YtilbpmimoijfhaaGreatDoorY30
namespace Go.Proofs.YtilbpmimoijfhaaGreatDoor
set_option linter.all false
set_option maxRecDepth 100000
set_option maxHeartbeats 16000000
open Go.RowKit Go.Proofs.Tryz
end Go.Proofs.YtilbpmimoijfhaaGreatDoor
