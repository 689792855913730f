/- Part 12. -/
import Derived.Test.YtdkobefpnjbgnaaGreatDoorMovePutsJ9
import Derived.Test.YtdkobefpnjbgnaaGreatDoorMovePutsJ11
import Derived.Shelf.AbstractIn
namespace Go.Proofs.YtdkobefpnjbgnaaGreatDoor
set_option linter.unusedVariables false
set_option maxHeartbeats 16000000
set_option maxRecDepth 100000
section
open Go Go.RowKit Go.Maps Go.Sort Go.Shelf
end
section
open Go Go.RowKit
end
end Go.Proofs.YtdkobefpnjbgnaaGreatDoor
