/- Slices of bytes in a region where memory only grows. No program is named here. -/
import Derived.Test.YtpmndmgfoiagnaaDoorGrow
import Derived.Test.YtpmndmgfoiagnaaDoorStr
namespace Go.Proofs.YtpmndmgfoiagnaaDoor
open Go Go.RowKit
set_option linter.unusedVariables false

/-- A slice that reads as the bytes l. -/
def VBs (l : List UInt8) : VP := fun v w => Bs (fun _ => True) w v l
theorem Bs.later {S : Nat → Prop} {w w' : World} {v : Value} {l : List UInt8} (h : Bs S w v l) (hb : Below w.heap.size w w') : Bs S w' v l := by
  obtain ⟨A, c, rfl, h3, h4, h5, h6⟩ := h.at
  refine Bs.mk_ h3 h4 h5 fun hn => ?_
  obtain ⟨b, o, hA, hS, hc⟩ := h6 hn
  exact ⟨b, o, hA, hS, fun j hj => cell_later hb (hc j hj)⟩
theorem Stays.bs (l : List UInt8) : Stays (VBs l) := fun _ _ _ hb h => Bs.later h hb
theorem Bs.any {S : Nat → Prop} {w : World} {v : Value} {l : List UInt8} (h : Bs S w v l) : Bs (fun _ => True) w v l := Sl.more h fun _ _ => trivial

end Go.Proofs.YtpmndmgfoiagnaaDoor
