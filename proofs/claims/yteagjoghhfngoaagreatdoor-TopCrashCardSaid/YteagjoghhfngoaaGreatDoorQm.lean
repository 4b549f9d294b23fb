import Derived.Test.YteagjoghhfngoaaGreatDoorQl
set_option maxRecDepth 100000
set_option maxHeartbeats 32000000
set_option linter.all false
namespace Go.Proofs.YteagjoghhfngoaaGreatDoor
open Go.RowKit Tryz Value List
end Go.Proofs.YteagjoghhfngoaaGreatDoor
