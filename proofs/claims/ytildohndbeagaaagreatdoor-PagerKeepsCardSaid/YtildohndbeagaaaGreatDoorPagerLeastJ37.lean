/- What the proof of PagerLeast needs, part 37. -/
import Derived.Test.YtildohndbeagaaaGreatDoorPagerLeastJ36
import Derived.Deep.WholeRow

namespace Go.Proofs.YtildohndbeagaaaGreatDoor
open Go Go.RowKit
set_option linter.unusedVariables false

theorem rpagerTy : StructTy Tryz.prog 35 452 := ⟨⟨_, Tryz.underlying35⟩, by kernel_rfl⟩
theorem zero13 : Tryz.zeroCells35 = #[.int .i64 0, .int .u64 0] ++ (Array.replicate 270 (.bool false) ++ Array.replicate 180 (.string ⟨#[]⟩)) := by kernel_rfl
/-- The document's pager that has nothing. -/
noncomputable def new13 (n : Int) : Array Value := Tryz.zeroCells35.setIfInBounds 0 (.int .i64 n)
theorem new13_size (n : Int) : (new13 n).size = 452 := by
  unfold new13
  rw [Array.size_setIfInBounds, zero13]
  simp
theorem new13_tag (n : Int) : (new13 n)[1]? = some (.int .u64 0) := by
  unfold new13
  rw [Array.getElem?_setIfInBounds_ne (by omega), zero13]
  simp
theorem new13_flag (n : Int) {i : Nat} (h0 : 2 ≤ i) (h1 : i < 272) : (new13 n)[i]? = some (.bool false) := by
  unfold new13
  rw [Array.getElem?_setIfInBounds_ne (by omega), zero13, Array.getElem?_append, if_neg (by simp; omega), Array.getElem?_append, if_pos (by simp; omega), Array.getElem?_replicate, if_pos (by simp; omega)]
set_option maxHeartbeats 1000000 in
set_option maxRecDepth 100000 in
theorem rnew13_any (n : Int) (w : World) :
    Calls Tryz.prog 12 #[.int .i64 n] w fun e w' => e = .returned (.agg (new13 n)) ∧ Below w.heap.size w w' := by
  have hst : (storeCells ⟨w.heap.size, 0, none⟩ (Tryz.zeroCells35.toList.set 0 (Value.int .i64 n))).run Tryz.prog (w.alloc (.cells Tryz.zeroCells35 35)) = .ok () (w.alloc (.cells (new13 n) 35)) := by
    have := run_storeCells_new (P := Tryz.prog) w 35 Tryz.zeroCells35 (new13 n) (by rw [new13_size]; kernel_rfl) (by rw [new13_size]; kernel_rfl) (by
      rw [Array.all_eq_true]
      intro i hi
      have h1 : (new13 n)[i]? = some ((new13 n)[i]) := Array.getElem?_eq_getElem hi
      by_cases h : i = 0
      · subst h
        have e2 : (new13 n)[0]? = some (.int .i64 n) := by
          unfold new13
          rw [Array.getElem?_setIfInBounds_self, if_pos (by rw [show Tryz.zeroCells35.size = 452 by kernel_rfl]; omega)]
        rw [e2] at h1
        rw [← Option.some.inj h1]; rfl
      · have e2 : (new13 n)[i]? = Tryz.zeroCells35[i]? := by unfold new13; rw [Array.getElem?_setIfInBounds_ne (by omega)]
        have e3 : Tryz.zeroCells35.all (·.oneCell') = true := by kernel_rfl
        rw [Array.all_eq_true] at e3
        have hi2 : i < Tryz.zeroCells35.size := by rw [new13_size] at hi; rw [show Tryz.zeroCells35.size = 452 by kernel_rfl]; exact hi
        rw [e2, Array.getElem?_eq_getElem hi2] at h1
        rw [← Option.some.inj h1]
        exact e3 i hi2)
    unfold new13 at this ⊢
    rw [Array.toList_setIfInBounds] at this
    exact this
  have HS := Lib.hid (new13_size n)
  have HB : Hid (Blk (w.alloc (.cells (new13 n) 35)) w.heap.size 35 (new13 n)) := Blk.new _ _ _
  go_enter Tryz.func12, Tryz.ntmps12
  go_wp2_with fail
  (try simp only [Exit.inBlock, Exit.then])
  refine bodyPost_ret (results_cell1 rfl _ _ w.heap.size rfl HB.out (by rw [HS.out]; exact rpagerTy)) rfl ⟨rfl, (Below.refl _ _).alloc (Nat.le_refl _) _⟩
end Go.Proofs.YtildohndbeagaaaGreatDoor
