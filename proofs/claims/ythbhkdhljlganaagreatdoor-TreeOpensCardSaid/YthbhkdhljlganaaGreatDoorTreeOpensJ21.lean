/- What the proof of TreeOpens needs, part 21. -/
import Derived.Test.YthbhkdhljlganaaGreatDoorTreeOpensJ2
import Derived.Test.YthbhkdhljlganaaGreatDoorTreeOpensJ20
import Derived.StillTailTactics
import Derived.BigQuiet
import Derived.Deep.QuietTactic

namespace Go.Proofs.YthbhkdhljlganaaGreatDoor
open Go Go.RowKit
set_option linter.unusedVariables false

section
variable {a b n : Nat} {wr w' : World} {Z' : Pz} {v : Value} {ids : List Nat}
end
end Go.Proofs.YthbhkdhljlganaaGreatDoor
