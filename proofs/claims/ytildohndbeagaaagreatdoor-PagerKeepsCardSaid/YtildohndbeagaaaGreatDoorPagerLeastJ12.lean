/- What the proof of PagerLeast needs, part 12. -/
import Derived.Test.YtildohndbeagaaaGreatDoorPagerLeastJ1
import Derived.Test.YtildohndbeagaaaGreatDoorPagerLeastJ5
import Derived.Test.YtildohndbeagaaaGreatDoorProg
import Derived.Shelf.Spec.TrailingZeros
import Derived.Laws.Bits128
import Derived.IntWalk

namespace Go.Proofs.YtildohndbeagaaaGreatDoor
open Go Go.RowKit
set_option linter.unusedVariables false

/-- The table of the de Bruijn look-up reads as it was laid. -/
def TabOk (w : World) : Prop := ∀ j, j < 64 → w.cell? ⟨1, j, none⟩ = some (.int .u8 (Lib.deBruijn64tab.getD j 0))
theorem TabOk.pos {w : World} (h : TabOk w) : 1 < w.heap.size := World.block_lt_of_cell? w _ (h 0 (by omega))
theorem TabOk.below {w w' : World} {B : Nat} (h : TabOk w) (hb : Below B w w') (hB : 1 < B) : TabOk w' := fun i hi => (hb.cell (p := ⟨1, i, none⟩) hB).trans (h i hi)
theorem TabOk.later {w w' : World} (h : TabOk w) (hb : Below w.heap.size w w') : TabOk w' := h.below hb h.pos

set_option maxHeartbeats 400000 in
theorem tz64_zero (w : World) :
    Calls Tryz.prog 85 #[.int .u64 0] w fun e w' => e = .returned (.int .i64 64) ∧ w = w' := by
  go_enter Tryz.func85, Tryz.ntmps85
  go_wp2
  go_ret
  exact ⟨rfl, rfl⟩
set_option maxHeartbeats 1000000 in
theorem tz64_core (x k idx : Nat) (w : World) (hx0 : ((x : Int) == 0) = false)
    (key : IntKind.u64.wrap (bits BinOp.and IntKind.u64 (x : Int) (IntKind.u64.wrap (-(x : Int))) * 285870213051353865) / 288230376151711744 = (idx : Int))
    (hi : idx < 64) (hk : k < 64) (hcell : w.cell? ⟨1, idx, none⟩ = some (.int .u8 k)) :
    Calls Tryz.prog 85 #[.int .u64 x] w fun e w' => e = .returned (.int .i64 k) ∧ w = w' := by
  go_enter Tryz.func85, Tryz.ntmps85
  go_wp2_with (simp only [key])
  go_ret
  exact ⟨rfl, rfl⟩
theorem tz64_any (x : Nat) (w : World) (hT : TabOk w) (hx : x < 18446744073709551616) (h0 : x ≠ 0) :
    Calls Tryz.prog 85 #[.int .u64 x] w fun e w' => e = .returned (.int .i64 (Lib.ctz 64 x)) ∧ w = w' := by
  obtain ⟨hlow, hk⟩ := Lib.lowest_bit 64 x h0 hx
  obtain ⟨hi, htab⟩ := Lib.deBruijn64_at _ hk
  have hcell := hT _ hi
  rw [htab] at hcell
  exact tz64_core x _ _ w (by rw [beq_eq_false_iff_ne]; omega) (tz64_key x _ hx h0 hlow) hi hk hcell

theorem u64_nat_and (a b : Nat) (ha : a < 18446744073709551616) (hb : b < 18446744073709551616) : bits .and .u64 (a : Int) (b : Int) = ((a &&& b : Nat) : Int) := u64_and_nat a b ha hb
theorem and_le_l (a b : Nat) : a &&& b ≤ a := Nat.and_le_left
end Go.Proofs.YtildohndbeagaaaGreatDoor
