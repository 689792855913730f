/- The types string, []byte, byte in this translation. -/
import Derived.Test.YtikpjikfbgjdfaaDoorProg
import Derived.Test.YtikpjikfbgjdfaaDoorStr
namespace Go.Proofs.YtikpjikfbgjdfaaDoor
open Go Go.RowKit
theorem tS : Tryd.prog.underlying 9 = some .string := Tryd.underlying9
theorem tB : Tryd.prog.underlying 26 = some (.slice 5) := Tryd.underlying26
theorem tU : Tryd.prog.underlying 5 = some (.int .u8) := Tryd.underlying5
end Go.Proofs.YtikpjikfbgjdfaaDoor
