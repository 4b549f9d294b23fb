import Derived.Test.YteagjoghhfngoaaGreatDoorQn
import Derived.Test.YteagjoghhfngoaaGreatDoorQo
import Derived.Test.YteagjoghhfngoaaGreatDoorCards
import Derived.Test.YteagjoghhfngoaaGreatDoorTie
set_option maxRecDepth 100000
set_option maxHeartbeats 32000000
set_option linter.all false
namespace Go.Proofs.YteagjoghhfngoaaGreatDoor
open Go.RowKit Go.Proofs.Tryz Value List
section
open Go.ChangeShapes Go.WideShapes Go.ChangeAt Go.ChangeMaps
end
end Go.Proofs.YteagjoghhfngoaaGreatDoor
