/- What the proof of PagerForms needs, part 39. -/
import Derived.Test.YtildohndbeagaaaGreatDoorPagerFormsJ36
import Derived.Test.YtildohndbeagaaaGreatDoorPagerFormsJ38
import Derived.LaidSub

namespace Go.Proofs.YtildohndbeagaaaGreatDoor
open Go.ChangeShapes Go.WideShapes Go.ChangeAt Go.RowKit Go.Deep
set_option linter.unusedVariables false

theorem bothOk {W : World} (h : laidMetH Tryz.prog [("lapstone/num.bits", Rows.laid_lapstone_num_bits), ("math/bits.deBruijn64tab", Rows.laid_math_bits_deBruijn64tab)] W) : BitsOk W ∧ TabOk W := by
  have h1 := laidMetH.filter (fun x => x.1 == "lapstone/num.bits") h
  have h2 := laidMetH.filter (fun x => x.1 == "math/bits.deBruijn64tab") h
  exact ⟨bitsOk h1, tabOk h2⟩
/-- A world for the witness. -/
noncomputable def laidWorldB (os : Os) : World :=
  { laidWorldD os with heap := (laidWorldD os).heap.modify 0 fun
      | .cells _ t frozen => .cells #[.int .u64 0, .int .u64 8, .int .u64 16, .int .u64 24, .int .u64 32, .int .u64 40, .int .u64 48, .int .u64 56, .int .u64 64] t frozen
      | o => o }
end Go.Proofs.YtildohndbeagaaaGreatDoor
