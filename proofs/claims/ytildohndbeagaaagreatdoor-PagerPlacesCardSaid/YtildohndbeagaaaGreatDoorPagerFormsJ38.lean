/- What the proof of PagerForms needs, part 38. -/
import Derived.Test.YtildohndbeagaaaGreatDoorPagerFormsJ12
import Derived.Test.YtildohndbeagaaaGreatDoorPagerFormsJ37

namespace Go.Proofs.YtildohndbeagaaaGreatDoor
open Go.ChangeShapes Go.WideShapes Go.ChangeAt Go.RowKit Go.Deep
set_option linter.unusedVariables false

theorem gTabD : Tryz.prog.globalNamed "math/bits.deBruijn64tab" = some 1 := by kernel_rfl
theorem gTabTypeD : (Tryz.prog.globals[1]?).map (·.type) = some 172 := by kernel_rfl
theorem cellsTD : Tryz.prog.cellsOf 172 = 64 := by kernel_rfl
theorem cellsED : Tryz.prog.cellsOf 5 = 1 := by kernel_rfl
def tabL : List Int := [0, 1, 56, 2, 57, 49, 28, 3, 61, 58, 42, 50, 38, 29, 17, 4, 62, 47, 59, 36, 45, 43, 51, 22, 53, 39, 33, 30, 24, 18, 12, 5, 63, 55, 48, 27, 60, 41, 37, 16, 46, 35, 44, 21, 52, 32, 23, 11, 54, 26, 40, 15, 34, 20, 31, 10, 25, 14, 19, 9, 13, 8, 7, 6]
theorem tabL_at : ∀ j, j < 64 → tabL.getD j 0 = (Lib.deBruijn64tab.getD j 0 : Int) := by decide +kernel
theorem tableD {W : World} (h : laidMetH Tryz.prog [("math/bits.deBruijn64tab", Rows.laid_math_bits_deBruijn64tab)] W) : Lib.TabIs Tryz.prog W "math/bits.deBruijn64tab" .u8 tabL :=
  Lib.tabIs_of_head (rest := []) gTabD gTabTypeD Tryz.underlying172 Tryz.underlying5 cellsED cellsTD h
theorem tabOk {W : World} (h : laidMetH Tryz.prog [("math/bits.deBruijn64tab", Rows.laid_math_bits_deBruijn64tab)] W) : TabOk W := by
  intro j hj
  have hc := (tableD h).cell gTabD j (by simpa [tabL] using hj)
  rw [tabL_at j hj] at hc
  exact hc
/-- A world for the witness. -/
noncomputable def laidWorldD (os : Os) : World :=
  { World.holding Tryz.prog os ⟨#[], #[], []⟩ with heap := (World.holding Tryz.prog os ⟨#[], #[], []⟩).heap.modify 1 fun
      | .cells _ t frozen => .cells #[.int .u8 0, .int .u8 1, .int .u8 56, .int .u8 2, .int .u8 57, .int .u8 49, .int .u8 28, .int .u8 3, .int .u8 61, .int .u8 58, .int .u8 42, .int .u8 50, .int .u8 38, .int .u8 29, .int .u8 17, .int .u8 4, .int .u8 62, .int .u8 47, .int .u8 59, .int .u8 36, .int .u8 45, .int .u8 43, .int .u8 51, .int .u8 22, .int .u8 53, .int .u8 39, .int .u8 33, .int .u8 30, .int .u8 24, .int .u8 18, .int .u8 12, .int .u8 5, .int .u8 63, .int .u8 55, .int .u8 48, .int .u8 27, .int .u8 60, .int .u8 41, .int .u8 37, .int .u8 16, .int .u8 46, .int .u8 35, .int .u8 44, .int .u8 21, .int .u8 52, .int .u8 32, .int .u8 23, .int .u8 11, .int .u8 54, .int .u8 26, .int .u8 40, .int .u8 15, .int .u8 34, .int .u8 20, .int .u8 31, .int .u8 10, .int .u8 25, .int .u8 14, .int .u8 19, .int .u8 9, .int .u8 13, .int .u8 8, .int .u8 7, .int .u8 6] t frozen
      | o => o }

section
variable {H : Type} {enc : TypeId × Value → H} {P : Program} {w : World} {base : Nat} {spare : Nat → Bool} {held : Bool}
/-- A slice of structs of two integers reads as a list of pairs. -/
theorem open_pairs {r : Reach} {b0 : Nat} {t e : TypeId} {f0 f1 : Field} {v : Value} {d : DataW H} {ps : List MemPlace} (ht : P.underlying t = some (.slice e)) (he : P.underlying e = some (.struct #[f0, f1])) (hone : oneCellFields P #[f0, f1] = true) (hC : P.cellsOf e = 2)
    (h0 : P.underlying f0.type = some (.int .i64)) (h1 : P.underlying f1.type = some (.int .i64)) (hval : Value.okWide P w r b0 t v) (h : DataW.Trod enc P w base spare held t v d ps) :
    ∃ (l : List (Int × Int)) (A : Option Addr) (c : Nat), v = .slice A l.length c ∧ l.length ≤ 9223372036854775807 ∧ (∀ x ∈ l, (-9223372036854775808 ≤ x.1 ∧ x.1 ≤ 9223372036854775807) ∧ -9223372036854775808 ≤ x.2 ∧ x.2 ≤ 9223372036854775807) ∧
      (0 < l.length → ∃ b o, A = some ⟨b, o, none⟩ ∧ b < w.heap.size ∧ ∀ i (h : i < l.length), w.cell? ⟨b, o + i * 2, none⟩ = some (.int .i64 l[i].1) ∧ w.cell? ⟨b, o + i * 2 + 1, none⟩ = some (.int .i64 l[i].2)) := by
  obtain ⟨fuel, hf⟩ := h
  obtain ⟨a', len', cap', rfl⟩ := okWide_slice ht hval
  rcases open_slice_fields ht he hone (by simpa using hC) hf with ⟨hc, _⟩ | ⟨a, len, cap, m, D, Pl, hcs, _, hl, hcm, hm, _, hi⟩
  · refine ⟨[], none, 0, by simpa [Value.cells] using hc, by simp, by simp, fun h => by simp at h⟩
  · have hlm : len ≤ m := by rw [hm]; split <;> omega
    have key : ∀ i, i < len → ∃ x y : Int, w.cell? (a.add (i * 2)) = some (.int .i64 x) ∧ w.cell? (a.add (i * 2 + 1)) = some (.int .i64 y) ∧ (-9223372036854775808 ≤ x ∧ x ≤ 9223372036854775807) ∧ -9223372036854775808 ≤ y ∧ y ≤ 9223372036854775807 := by
      intro i hil
      obtain ⟨ys, n, _, _, _, hfs⟩ := hi i (by omega)
      obtain ⟨v0, y0, c0, _, t0⟩ := hfs 0 f0 rfl
      obtain ⟨v1, y1, c1, _, t1⟩ := hfs 1 f1 rfl
      obtain ⟨x, e0, _, b0⟩ := DataW.trod_int h0 t0
      obtain ⟨y, e1, _, b1⟩ := DataW.trod_int h1 t1
      obtain rfl : v0 = _ := by simpa using e0
      obtain rfl : v1 = _ := by simpa using e1
      exact ⟨x, y, by simpa using c0, by simpa using c1, int_bd b0, int_bd b1⟩
    have hsz : Value.slice a' len' cap' = .slice (some a) len cap := by simpa [Value.cells] using hcs
    rw [hsz]
    refine ⟨(List.range len).map fun i => if h : i < len then ((key i h).choose, (key i h).choose_spec.choose) else (0, 0), some a, cap, by simp, by simp; simp only [maxLen] at hcm; omega, ?_, ?_⟩
    · intro x hx
      obtain ⟨i, hi', rfl⟩ := List.mem_map.1 hx
      have hil := List.mem_range.1 hi'
      simp only [hil, dite_true]
      have := (key i hil).choose_spec.choose_spec
      exact ⟨this.2.2.1, this.2.2.2⟩
    · intro h0'
      have hl0 : 0 < len := by simpa using h0'
      obtain ⟨x, y, hc0, _⟩ := key 0 hl0
      have hblt := World.block_lt_of_cell? w _ hc0
      have hspot : a.spot = none := by
        cases hs : a.spot with
        | none => rfl
        | some z =>
          unfold World.cell? at hc0
          split at hc0
          · simp [Addr.add, hs] at hc0
          · cases hc0
      obtain ⟨ab, ao, asp⟩ := a
      simp only at hspot
      subst hspot
      refine ⟨ab, ao, rfl, by simpa [addr_add_none] using hblt, fun i hil => ?_⟩
      have hil' : i < len := by simpa using hil
      have := (key i hil').choose_spec.choose_spec
      simp only [List.getElem_map, List.getElem_range, hil', dite_true]
      refine ⟨?_, ?_⟩
      · exact (congrArg (fun p => w.cell? p) (addr_add_none ab ao (i * 2))).symm.trans this.1
      · exact ((congrArg (fun p => w.cell? p) (addr_add_none ab ao (i * 2 + 1))).trans (by rw [Nat.add_assoc])).symm.trans this.2.1
end
end Go.Proofs.YtildohndbeagaaaGreatDoor
