/- The reference of chapter 10: Dec. -/
import Derived.Test.YtilbpmimoijfhaaGreatDoorY37
import Derived.Test.YtilbpmimoijfhaaGreatDoorY18
namespace Go.Proofs.YtilbpmimoijfhaaGreatDoor
set_option linter.all false
set_option maxRecDepth 100000
set_option maxHeartbeats 16000000
open Go.RowKit Go.Proofs.Tryz



section
open Fx (Tr)
end
end Go.Proofs.YtilbpmimoijfhaaGreatDoor
