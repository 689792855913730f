/- The types string, []byte, byte in this translation. -/
import Derived.Test.YtlhdeclimodfdaaDoorProg
import Derived.Test.YtlhdeclimodfdaaDoorStr
namespace Go.Proofs.YtlhdeclimodfdaaDoor
open Go Go.RowKit
theorem tS : Tryd.prog.underlying 9 = some .string := Tryd.underlying9
theorem tB : Tryd.prog.underlying 45 = some (.slice 5) := Tryd.underlying45
theorem tU : Tryd.prog.underlying 5 = some (.int .u8) := Tryd.underlying5
end Go.Proofs.YtlhdeclimodfdaaDoor
