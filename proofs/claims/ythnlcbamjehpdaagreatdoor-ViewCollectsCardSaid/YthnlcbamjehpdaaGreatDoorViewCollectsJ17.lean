/- Part 17. -/
import Derived.Test.YthnlcbamjehpdaaGreatDoorViewCollectsJ16
namespace Go.Proofs.YthnlcbamjehpdaaGreatDoor
set_option linter.unusedVariables false
set_option maxHeartbeats 16000000
set_option maxRecDepth 100000
section
open Go Go.RowKit
end
end Go.Proofs.YthnlcbamjehpdaaGreatDoor
