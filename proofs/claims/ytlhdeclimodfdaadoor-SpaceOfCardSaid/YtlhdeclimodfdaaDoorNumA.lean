/- num.PutVar, num.Size: what they return. -/
import Derived.Test.YtlhdeclimodfdaaDoorProg
import Derived.Test.YtlhdeclimodfdaaDoorNumP
import Derived.Deep.QuietTactic
import Derived.BigQuiet
namespace Go.Proofs.YtlhdeclimodfdaaDoor
open Go Go.RowKit
set_option linter.unusedVariables false

theorem elemU8 : Elem Tryd.prog 45 5 (.int .u8 0) 1 1 := Elem.mk' Tryd.underlying45 (by kernel_rfl) rfl (by omega)

set_option maxHeartbeats 400000 in
set_option maxRecDepth 100000 in
theorem putVar_any (S : Nat → Prop) (v0 : Value) (l : List UInt8) (x : Nat) (w : World) (hx : x < U64) (hl : (l ++ varB x).length ≤ 1099511627776) (hb : Bs S w v0 l) :
    Calls Tryd.prog 40 #[v0, .int .u64 x] w fun e w' => ∃ A k c, e = .returned (.slice A k c) ∧ Ob 5 w' w.heap.size (.slice A k c) (l ++ varB x) ∧ Below w.heap.size w w' := by
  have HB := Lib.hid hb
  have hvl := varB_len x
  have hlx : l.length ≤ 1099511627776 := by simp at hl; omega
  obtain ⟨A, c, rfl, hlc, hcm, hA0, hA⟩ := hb.at
  clear hA hA0 hb
  go_enter Tryd.func40, Tryd.ntmps40
  go_wp2_with (at_builtin; go_loud (refine wpList_append_bs _ rfl (.tmp 6) (.tmp 7) elemU8 rfl (Ob.made _ _ _ (Nat.le_refl _) (by simp)) (Sl.alloc1 HB.out _) rfl rfl (by simp; omega) (by simp) ?_); intro A1 k1 c1 w1 hown1 hg1 hat1)
  have hbl1 : Below w.heap.size w w1 := below_grown_own ((Below.refl _ _).alloc (Nat.le_refl _) _) (Ob.made _ _ _ (Nat.le_refl _) (by simp)) hg1 (by simp)
  clear hg1 hat1 HB
  go_loopw [1, 5] (fun xv out wr => ∃ y d A k c, xv = .int .u64 ((y : Nat) : Int) ∧ out = .slice A k c ∧ y < U64 ∧ d ++ varB y = l ++ varB x ∧ Ob 5 wr w.heap.size out d ∧ Below w.heap.size w wr) (fun xv _ _ => (intOf xv).toNat)
  case atStart => exact ⟨x, l, _, _, _, rfl, rfl, hx, rfl, hown1, hbl1⟩
  case round =>
    obtain ⟨y, d, A, k, c, rfl, rfl, hy, hd, hown, hbl⟩ := hrel
    have hsz := hbl.size
    have hvy := varB_len y
    have hdl : d.length < (l ++ varB x).length := by rw [← hd]; simp; omega
    have HD := Lib.hid hd
    clear hd
    by_cases h : y < 128
    · go_wp2_with (at_builtin; go_loud (refine wpList_append_bs _ rfl (.tmp 19) (.tmp 22) elemU8 rfl (hown.alloc _) (Bs.one _ _ _ (by omega) (by omega) (by simp)) rfl rfl (by simp; omega) (by simp; omega) ?_); intro A2 k2 c2 w2 hown2 hg2 hat2)
      go_ret
      refine ⟨A2, k2, c2, rfl, ?_, below_grown_own (hbl.alloc hsz _) (hown.alloc _) hg2 (by simp; omega)⟩
      rw [← HD.out, varB_lo h]
      exact hown2
    · have hor := bits_or128 y
      go_wp2_with (at_builtin; go_loud (refine wpList_append_bs _ rfl (.tmp 13) (.tmp 17) elemU8 rfl (hown.alloc _) (Bs.one _ _ _ (by omega) (by omega) (by simp)) rfl rfl (by simp; omega) (by simp; omega) ?_); intro A2 k2 c2 w2 hown2 hg2 hat2)
      go_roundw
      case rel => exact ⟨y / 128, d ++ [UInt8.ofNat (y % 128 + 128)], _, _, _, by go_num, rfl, by omega, by rw [← HD.out, varB_hi h]; simp, by rw [show ((y : Int) % 128 + 128).toNat = y % 128 + 128 from by omega] at hown2; exact hown2, below_grown_own (hbl.alloc hsz _) (hown.alloc _) hg2 (by simp; omega)⟩
      case measure => simp [intOf]; omega

/-- The table of bits reads as it was laid. -/
def BitsOk (w : World) : Prop := ∀ i, i < 9 → w.cell? ⟨0, i, none⟩ = some (.int .u64 ((8 * i : Nat) : Int))
theorem BitsOk.pos {w : World} (h : BitsOk w) : 0 < w.heap.size := World.block_lt_of_cell? w _ (h 0 (by omega))
theorem BitsOk.below {w w' : World} {B : Nat} (h : BitsOk w) (hb : Below B w w') (hB : 0 < B) : BitsOk w' := fun i hi => (hb.cell (p := ⟨0, i, none⟩) hB).trans (h i hi)
theorem BitsOk.later {w w' : World} (h : BitsOk w) (hb : Below w.heap.size w w') : BitsOk w' := h.below hb h.pos

theorem byte_of_shift (x sh : Nat) : UInt8.ofNat ((x : Int) / 2 ^ sh % 256).toNat = UInt8.ofNat (x / 2 ^ sh) := by
  have e : ((x : Int) / 2 ^ sh % 256) = ((x / 2 ^ sh % 256 : Nat) : Int) := by rw [Int.natCast_emod, Int.natCast_ediv, Int.natCast_pow]; rfl
  rw [e, Int.toNat_natCast]
  apply UInt8.toNat_inj.1
  simp

theorem shift_test (x sh : Nat) : (((x : Int) / 2 ^ sh) != 0) = !decide (x / 2 ^ sh = 0) := by
  have e : ((x : Int) / 2 ^ sh) = ((x / 2 ^ sh : Nat) : Int) := by rw [Int.natCast_ediv, Int.natCast_pow]; rfl
  rw [e, bne, Bool.eq_iff_iff]
  simp only [Bool.not_eq_true', beq_eq_false_iff_ne, decide_eq_false_iff_not, ne_eq]
  omega

theorem beB_take_succ (x n k : Nat) (hk : k < n) : (beB x n).take (k + 1) = (beB x n).take k ++ [UInt8.ofNat (x / 2 ^ (8 * (n - 1 - k)))] := by
  rw [List.take_succ_eq_append_getElem (by rw [beB_length]; exact hk)]
  congr 2
  simp only [beB, List.getElem_map, List.getElem_range]
  rw [show (256 : Nat) = 2 ^ 8 from rfl, ← Nat.pow_mul]

end Go.Proofs.YtlhdeclimodfdaaDoor
