/- What the proof of TreeOpens needs, part 16. -/
import Derived.Shelf.SlGeneric
import Derived.Shelf.SlIterI.Nil
import Derived.Lib.SlKeysI
import Derived.Test.YthbhkdhljlganaaGreatDoorProg

namespace Go.Maps
end Go.Maps
namespace Go.Sort
end Go.Sort
namespace Go.Shelf
end Go.Shelf
