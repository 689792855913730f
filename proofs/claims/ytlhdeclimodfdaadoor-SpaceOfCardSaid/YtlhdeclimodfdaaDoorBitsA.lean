/- math/bits.TrailingZeros64, OnesCount64: what they return. -/
import Derived.Test.YtlhdeclimodfdaaDoorProg
import Derived.Test.YtlhdeclimodfdaaDoorStr
import Derived.Test.YtlhdeclimodfdaaDoorSpaP
import Derived.Shelf.Spec.TrailingZeros
import Derived.Laws.Bits128
import Derived.IntWalk
namespace Go.Proofs.YtlhdeclimodfdaaDoor
open Go Go.RowKit
set_option linter.unusedVariables false

/-- The table of the de Bruijn look-up reads as it was laid. -/
def TabOk (w : World) : Prop := ∀ j, j < 64 → w.cell? ⟨0, j, none⟩ = some (.int .u8 (Lib.deBruijn64tab.getD j 0))
theorem TabOk.pos {w : World} (h : TabOk w) : 0 < w.heap.size := World.block_lt_of_cell? w _ (h 0 (by omega))
theorem TabOk.below {w w' : World} {B : Nat} (h : TabOk w) (hb : Below B w w') (hB : 0 < B) : TabOk w' := fun i hi => (hb.cell (p := ⟨0, i, none⟩) hB).trans (h i hi)
theorem TabOk.later {w w' : World} (h : TabOk w) (hb : Below w.heap.size w w') : TabOk w' := h.below hb h.pos

set_option maxHeartbeats 400000 in
theorem tz64_zero (w : World) :
    Calls Tryd.prog 23 #[.int .u64 0] w fun e w' => e = .returned (.int .i64 64) ∧ w = w' := by
  go_enter Tryd.func23, Tryd.ntmps23
  go_wp2
  go_ret
  exact ⟨rfl, rfl⟩
set_option maxHeartbeats 1000000 in
theorem tz64_core (x k idx : Nat) (w : World) (hx0 : ((x : Int) == 0) = false)
    (key : IntKind.u64.wrap (bits BinOp.and IntKind.u64 (x : Int) (IntKind.u64.wrap (-(x : Int))) * 285870213051353865) / 288230376151711744 = (idx : Int))
    (hi : idx < 64) (hk : k < 64) (hcell : w.cell? ⟨0, idx, none⟩ = some (.int .u8 k)) :
    Calls Tryd.prog 23 #[.int .u64 x] w fun e w' => e = .returned (.int .i64 k) ∧ w = w' := by
  go_enter Tryd.func23, Tryd.ntmps23
  go_wp2_with (simp only [key])
  go_ret
  exact ⟨rfl, rfl⟩
theorem tz64_any (x : Nat) (w : World) (hT : TabOk w) (hx : x < 18446744073709551616) (h0 : x ≠ 0) :
    Calls Tryd.prog 23 #[.int .u64 x] w fun e w' => e = .returned (.int .i64 (Lib.ctz 64 x)) ∧ w = w' := by
  obtain ⟨hlow, hk⟩ := Lib.lowest_bit 64 x h0 hx
  obtain ⟨hi, htab⟩ := Lib.deBruijn64_at _ hk
  have hcell := hT _ hi
  rw [htab] at hcell
  exact tz64_core x _ _ w (by rw [beq_eq_false_iff_ne]; omega) (tz64_key x _ hx h0 hlow) hi hk hcell

theorem u64_nat_and (a b : Nat) (ha : a < 18446744073709551616) (hb : b < 18446744073709551616) : bits .and .u64 (a : Int) (b : Int) = ((a &&& b : Nat) : Int) := u64_and_nat a b ha hb
theorem and_le_l (a b : Nat) : a &&& b ≤ a := Nat.and_le_left
set_option maxHeartbeats 2000000 in
set_option maxRecDepth 100000 in
theorem ones_any (x : Nat) (w : World) (hx : x < 18446744073709551616) :
    Calls Tryd.prog 22 #[.int .u64 x] w fun e w' => e = .returned (.int .i64 (popN 64 x)) ∧ w = w' := by
  obtain ⟨a, b, c, d, e, f, g, h, ha, hb, hc, hd, he, hf, hg, hh, hm, hp⟩ := ones_spec x
  simp only [rep85, rep51, rep15] at hm
  have l1 := @Nat.and_le_left (x / 2) 6148914691236517205
  have l2 := @Nat.and_le_left x 6148914691236517205
  have r1 := @Nat.and_le_right (x / 2) 6148914691236517205
  have r2 := @Nat.and_le_right x 6148914691236517205
  have f1 := u64_and_nat (x / 2) 6148914691236517205 (by omega) (by omega)
  have f2 := u64_and_nat x 6148914691236517205 (by omega) (by omega)
  rw [show ((x / 2 : Nat) : Int) = (x : Int) / (2 : Int) by omega] at f1
  generalize (x / 2 &&& 6148914691236517205) = p1 at *
  generalize (x &&& 6148914691236517205) = p2 at *
  have f3 : IntKind.u64.wrap ((p1 : Int) + (p2 : Int)) = ((p1 + p2 : Nat) : Int) := wrap_u64 (by omega) (by unfold U64; omega)
  generalize hy : p1 + p2 = y at *
  have hyl : y < 18446744073709551616 := by omega
  have r3 := @Nat.and_le_right (y / 4) 3689348814741910323
  have r4 := @Nat.and_le_right y 3689348814741910323
  have f4 := u64_and_nat (y / 4) 3689348814741910323 (by omega) (by omega)
  have f5 := u64_and_nat y 3689348814741910323 (by omega) (by omega)
  rw [show ((y / 4 : Nat) : Int) = (y : Int) / (4 : Int) by omega] at f4
  generalize (y / 4 &&& 3689348814741910323) = p3 at *
  generalize (y &&& 3689348814741910323) = p4 at *
  have f6 : IntKind.u64.wrap ((p3 : Int) + (p4 : Int)) = ((p3 + p4 : Nat) : Int) := wrap_u64 (by omega) (by unfold U64; omega)
  have hzl : p3 + p4 < 8000000000000000000 := by omega
  generalize hz : p3 + p4 = z at *
  have f7 : IntKind.u64.wrap ((z : Int) / (16 : Int) + (z : Int)) = ((z / 16 + z : Nat) : Int) := by rw [wrap_u64 (by omega) (by unfold U64; omega)]; omega
  have f8 := u64_and_nat (z / 16 + z) 1085102592571150095 (by omega) (by omega)
  rw [hm] at f8
  generalize hv : z / 16 + z = v at *
  obtain ⟨q, hq⟩ : ∃ q, q = a + 256 * (b + 256 * (c + 256 * (d + 256 * (e + 256 * (f + 256 * (g + 256 * h)))))) := ⟨_, rfl⟩
  rw [← hq] at f8 hm
  obtain ⟨s, hs⟩ : ∃ s, s = q + q / 256 := ⟨_, rfl⟩
  obtain ⟨t, ht⟩ : ∃ t, t = s + s / 65536 := ⟨_, rfl⟩
  obtain ⟨hql, hsl, htl, hr⟩ := ones_sum a b c d e f g h ha hb hc hd he hf hg hh q hq s hs t ht
  rw [← hp] at hr
  have f9 : IntKind.u64.wrap ((q : Int) + (q : Int) / (256 : Int)) = (s : Int) := by rw [wrap_u64 (by omega) (by unfold U64; omega)]; omega
  have f10 : IntKind.u64.wrap ((s : Int) + (s : Int) / (65536 : Int)) = (t : Int) := by rw [wrap_u64 (by omega) (by unfold U64; omega)]; omega
  obtain ⟨r, hr'⟩ : ∃ r, r = t + t / 4294967296 := ⟨_, rfl⟩
  have f11 : IntKind.u64.wrap ((t : Int) + (t : Int) / (4294967296 : Int)) = (r : Int) := by rw [wrap_u64 (by omega) (by unfold U64; omega)]; omega
  rw [← hr'] at hr
  have hrl : r ≤ 9223372036854775807 := by omega
  rw [show ((6148914691236517205 : Nat) : Int) = (6148914691236517205 : Int) from rfl] at f1 f2
  rw [show ((3689348814741910323 : Nat) : Int) = (3689348814741910323 : Int) from rfl] at f4 f5
  rw [show ((1085102592571150095 : Nat) : Int) = (1085102592571150095 : Int) from rfl] at f8
  have HR := Lib.hid hr
  have f12 : bits .and .i64 (wrap64 (r : Int)) 127 = (popN 64 x : Int) := by
    rw [IntWalk.wrap64_in _ ⟨by omega, by omega⟩, i64_and127, ← hr]
    omega
  have H12 := Lib.hid f12
  clear f12
  have H1 := Lib.hid f1
  have H2 := Lib.hid f2
  have H3 := Lib.hid f3
  have H4 := Lib.hid f4
  have H5 := Lib.hid f5
  have H6 := Lib.hid f6
  have H7 := Lib.hid f7
  have H8 := Lib.hid f8
  have H9 := Lib.hid f9
  have H10 := Lib.hid f10
  have H11 := Lib.hid f11
  clear f1 f2 f3 f4 f5 f6 f7 f8 f9 f10 f11 hr hr' hq hs ht hp hm hz hy hv ha hb hc hd he hf hg hh l1 l2 r1 r2 r3 r4
  go_enter Tryd.func22, Tryd.ntmps22
  go_wp2_with fail
  go_ret
  refine ⟨?_, rfl⟩
  simp only [H1.out, H2.out, H3.out, H4.out, H5.out, H6.out, H7.out, H8.out, H9.out, H10.out, H11.out]
  show Ending.returned (.int .i64 (bits .and .i64 (wrap64 (r : Int)) 127)) = _
  rw [H12.out]
end Go.Proofs.YtlhdeclimodfdaaDoor
