/- Part 12. -/
import Derived.Shelf.SlGeneric
import Derived.Shelf.SlIterI.Nil
import Derived.Test.YthnlcbamjehpdaaGreatDoorProg
namespace Go.Proofs.YthnlcbamjehpdaaGreatDoor
set_option linter.unusedVariables false
set_option maxHeartbeats 16000000
set_option maxRecDepth 100000
section
end
end Go.Proofs.YthnlcbamjehpdaaGreatDoor
