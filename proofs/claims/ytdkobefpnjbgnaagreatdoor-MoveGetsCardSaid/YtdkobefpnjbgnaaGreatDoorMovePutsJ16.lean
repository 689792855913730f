/- Part 16. -/
import Derived.Test.YtdkobefpnjbgnaaGreatDoorMovePutsJ15
namespace Go.Proofs.YtdkobefpnjbgnaaGreatDoor
set_option linter.unusedVariables false
set_option maxHeartbeats 16000000
set_option maxRecDepth 100000
section
open Go Go.RowKit
section
variable {a b n:Nat} {wr w':World} {Z':Pz} {v:Value} {ids:List Nat}
end
end
end Go.Proofs.YtdkobefpnjbgnaaGreatDoor
