/- Part 13. -/
import Derived.Test.YthnlcbamjehpdaaGreatDoorViewCollectsJ10
import Derived.Test.YthnlcbamjehpdaaGreatDoorViewCollectsJ12
import Derived.Shelf.AbstractIn
namespace Go.Proofs.YthnlcbamjehpdaaGreatDoor
set_option linter.unusedVariables false
set_option maxHeartbeats 16000000
set_option maxRecDepth 100000
section
open Go Go.RowKit Go.Maps Go.Sort Go.Shelf
end
section
open Go Go.RowKit
end
end Go.Proofs.YthnlcbamjehpdaaGreatDoor
