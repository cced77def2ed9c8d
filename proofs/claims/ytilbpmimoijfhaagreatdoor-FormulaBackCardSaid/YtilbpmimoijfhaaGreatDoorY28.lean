/- The reference: ten to a power; the natural that digits L0. -/
import Derived.Test.YtilbpmimoijfhaaGreatDoorY22
namespace Go.Proofs.YtilbpmimoijfhaaGreatDoor
set_option linter.all false
set_option maxRecDepth 100000
set_option maxHeartbeats 16000000
open Go.RowKit Go.Proofs.Tryz
end Go.Proofs.YtilbpmimoijfhaaGreatDoor
