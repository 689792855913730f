/- The types string, []byte, byte in this translation. -/
import Derived.Test.YtpmndmgfoiagnaaDoorProg
import Derived.Test.YtpmndmgfoiagnaaDoorStr
namespace Go.Proofs.YtpmndmgfoiagnaaDoor
open Go Go.RowKit
theorem tS : Tryd.prog.underlying 9 = some .string := Tryd.underlying9
theorem tB : Tryd.prog.underlying 75 = some (.slice 5) := Tryd.underlying75
theorem tU : Tryd.prog.underlying 5 = some (.int .u8) := Tryd.underlying5
end Go.Proofs.YtpmndmgfoiagnaaDoor
