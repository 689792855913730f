/- The types string, []byte, byte in this translation. -/
import Derived.Test.YtlidbgidbpaenaaDoorProg
import Derived.Test.YtlidbgidbpaenaaDoorStr
namespace Go.Proofs.YtlidbgidbpaenaaDoor
open Go Go.RowKit
theorem tS : Tryd.prog.underlying 9 = some .string := Tryd.underlying9
theorem tB : Tryd.prog.underlying 27 = some (.slice 5) := Tryd.underlying27
theorem tU : Tryd.prog.underlying 5 = some (.int .u8) := Tryd.underlying5
end Go.Proofs.YtlidbgidbpaenaaDoor
