/- What the proof of TreeOpens needs, part 5. -/
import Derived.Test.YthbhkdhljlganaaGreatDoorTreeOpensJ1
import Derived.Test.YthbhkdhljlganaaGreatDoorTreeOpensJ4
import Derived.Test.YthbhkdhljlganaaGreatDoorProg
import Derived.Shelf.Spec.TrailingZeros
import Derived.Laws.Bits128
import Derived.IntWalk

namespace Go.Proofs.YthbhkdhljlganaaGreatDoor
open Go Go.RowKit
set_option linter.unusedVariables false

end Go.Proofs.YthbhkdhljlganaaGreatDoor
