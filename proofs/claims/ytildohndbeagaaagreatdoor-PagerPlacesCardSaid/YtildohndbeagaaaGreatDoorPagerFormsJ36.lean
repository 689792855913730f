/- What the proof of PagerForms needs, part 36. -/
import Derived.Test.YtildohndbeagaaaGreatDoorPagerFormsJ1
import Derived.Test.YtildohndbeagaaaGreatDoorPagerFormsJ35
import Derived.Test.YtildohndbeagaaaGreatDoorRows
import Derived.ProofKit
import Derived.OpenShut
import Derived.ChangeMaps5
import Derived.Deep.DeepHandedRow
import Derived.Lib.LaidTab
import Derived.Lib.SmallJoins

namespace Go.Proofs.YtildohndbeagaaaGreatDoor
open Go.ChangeShapes Go.WideShapes Go.ChangeAt Go.RowKit
open Go.ChangeMaps (open_string shut_string)
set_option linter.unusedVariables false

theorem own : ownKnob Tryz.prog.godebug = none := by kernel_rfl
theorem laidOut : laidOutB Tryz.prog = true := by kernel_rfl
/-- The reading stays among the rows of the table of types. -/
theorem kids : Kids Tryz.prog (· < Tryz.prog.types.size) := kids_rows laidOut (by kernel_rfl)
theorem full : ∀ t e, t < Tryz.prog.types.size → Tryz.prog.underlying t = some (.slice e) → 0 < Tryz.prog.cellsOf e := slices_full_of _ (by kernel_rfl)
theorem gTab : Tryz.prog.globalNamed "lapstone/num.bits" = some 0 := by kernel_rfl
theorem gTabType : (Tryz.prog.globals[0]?).map (·.type) = some 170 := by kernel_rfl
theorem cellsT : Tryz.prog.cellsOf 170 = 9 := by kernel_rfl
theorem cellsE : Tryz.prog.cellsOf 161 = 1 := by kernel_rfl

theorem bytes_len (s : ByteArray) : s.data.toList.length = s.size := rfl
theorem u64_nat {x : Int} (h : (Lit.int .u64 x).wf = true) : ∃ y : Nat, x = (y : Int) ∧ y < U64 := by
  simp only [Lit.wf, Bool.and_eq_true, decide_eq_true_eq] at h
  have h0 : IntKind.u64.min = 0 := rfl
  have h1 : IntKind.u64.max = 18446744073709551615 := rfl
  refine ⟨x.toNat, by omega, ?_⟩
  unfold U64
  omega
theorem u32_nat {x : Int} (h : (Lit.int .u32 x).wf = true) : ∃ y : Nat, x = (y : Int) ∧ y < 4294967296 := by
  simp only [Lit.wf, Bool.and_eq_true, decide_eq_true_eq] at h
  have h0 : IntKind.u32.min = 0 := rfl
  have h1 : IntKind.u32.max = 4294967295 := rfl
  exact ⟨x.toNat, by omega, by omega⟩
theorem u16_nat {x : Int} (h : (Lit.int .u16 x).wf = true) : ∃ y : Nat, x = (y : Int) ∧ y < 65536 := by
  simp only [Lit.wf, Bool.and_eq_true, decide_eq_true_eq] at h
  have h0 : IntKind.u16.min = 0 := rfl
  have h1 : IntKind.u16.max = 65535 := rfl
  exact ⟨x.toNat, by omega, by omega⟩
theorem u8_nat {x : Int} (h : (Lit.int .u8 x).wf = true) : ∃ y : Nat, x = (y : Int) ∧ y < 256 := by
  simp only [Lit.wf, Bool.and_eq_true, decide_eq_true_eq] at h
  have h0 : IntKind.u8.min = 0 := rfl
  have h1 : IntKind.u8.max = 255 := rfl
  exact ⟨x.toNat, by omega, by omega⟩
theorem int_bd {x : Int} (h : (Lit.int .i64 x).wf = true) : -9223372036854775808 ≤ x ∧ x ≤ 9223372036854775807 := by
  simp only [Lit.wf, Bool.and_eq_true, decide_eq_true_eq] at h
  exact h
theorem str_len {s : ByteArray} (h : s.size ≤ maxLen) : s.data.toList.length ≤ 9223372036854775807 := by
  rw [bytes_len]
  simp only [maxLen] at h
  omega

/-- WHAT THE ROWS' LIST GIVES: the table's cells hold its nine numbers. -/
theorem table {W : World} (h : laidMetH Tryz.prog [("lapstone/num.bits", Rows.laid_lapstone_num_bits)] W) : Lib.TabIs Tryz.prog W "lapstone/num.bits" .u64 [0, 8, 16, 24, 32, 40, 48, 56, 64] :=
  Lib.tabIs_of_head (rest := []) gTab gTabType Tryz.underlying170 Tryz.underlying161 cellsE cellsT h
theorem bitsOk {W : World} (h : laidMetH Tryz.prog [("lapstone/num.bits", Rows.laid_lapstone_num_bits)] W) : BitsOk W := by
  intro i hi
  have hc := (table h).cell gTab i hi
  rw [hc]
  match i, hi with
  | 0, _ | 1, _ | 2, _ | 3, _ | 4, _ | 5, _ | 6, _ | 7, _ | 8, _ => rfl

/-- A WORLD FOR THE WITNESS: the settled one, the table (block 0) holding what its initialiser lays. -/
noncomputable def laidWorld (os : Os) : World :=
  { World.holding Tryz.prog os ⟨#[], #[], []⟩ with heap := (World.holding Tryz.prog os ⟨#[], #[], []⟩).heap.modify 0 fun
      | .cells _ t frozen => .cells #[.int .u64 0, .int .u64 8, .int .u64 16, .int .u64 24, .int .u64 32, .int .u64 40, .int .u64 48, .int .u64 56, .int .u64 64] t frozen
      | o => o }
end Go.Proofs.YtildohndbeagaaaGreatDoor
