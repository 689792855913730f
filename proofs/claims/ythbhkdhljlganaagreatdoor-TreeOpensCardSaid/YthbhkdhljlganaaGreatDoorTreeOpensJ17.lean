/- What the proof of TreeOpens needs, part 17. -/
import Derived.Test.YthbhkdhljlganaaGreatDoorTreeOpensJ1
import Derived.Test.YthbhkdhljlganaaGreatDoorTreeOpensJ6
import Derived.Test.YthbhkdhljlganaaGreatDoorTreeOpensJ9
import Derived.Test.YthbhkdhljlganaaGreatDoorTreeOpensJ16
import Derived.Shelf.AbstractIn

namespace Go.Proofs.YthbhkdhljlganaaGreatDoor
open Go Go.RowKit Go.Maps Go.Sort Go.Shelf
set_option linter.unusedVariables false


namespace Go.Proofs.YthbhkdhljlganaaGreatDoor
open Go Go.RowKit
set_option linter.unusedVariables false

end Go.Proofs.YthbhkdhljlganaaGreatDoor

namespace Go.Proofs.YthbhkdhljlganaaGreatDoor
open Go Go.RowKit
set_option linter.unusedVariables false

end Go.Proofs.YthbhkdhljlganaaGreatDoor
