import Derived.Test.YteagjoghhfngoaaGreatDoorQm
set_option maxRecDepth 100000
set_option maxHeartbeats 32000000
set_option linter.all false
namespace Go.Proofs.YteagjoghhfngoaaGreatDoor
open Go.RowKit Tryz Value List
section
attribute [local go_sem↓] CY rO
end
end Go.Proofs.YteagjoghhfngoaaGreatDoor
