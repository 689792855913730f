/- A slice of strings among the arguments, opened as one list of lists of bytes. No program is named here. -/
import Derived.Test.YtpmndmgfoiagnaaDoorCodW
import Derived.SliceStrings
import Derived.Lib.SmallJoins
import Derived.ProofKit
namespace Go.Proofs.YtpmndmgfoiagnaaDoor
open Go Go.RowKit Go.ChangeShapes Go.WideShapes
set_option linter.unusedVariables false
section
variable {H : Type} {enc : TypeId × Value → H} {P : Program} {w : World} {base : Nat} {spare : Nat → Bool} {held : Bool}
theorem open_strs {r : Reach} {b0 : Nat} {t e : TypeId} {v : Value} {d : DataW H} {ps : List MemPlace} (ht : P.underlying t = some (.slice e)) (he : P.underlying e = some .string) (hC : P.cellsOf e = 1)
    (hval : Value.okWide P w r b0 t v) (h : DataW.Trod enc P w base spare held t v d ps) :
    ∃ l : List (List UInt8), (∀ s ∈ l, s.length ≤ 9223372036854775807) ∧ l.length ≤ 9223372036854775807 ∧ Sl (fun b => b < w.heap.size) w 1 v l.length (txts l) := by
  obtain ⟨fuel, hf⟩ := h
  obtain ⟨a', len', cap', rfl⟩ := okWide_slice ht hval
  rcases open_strings ht he hC hf with ⟨hcs, _⟩ | ⟨a, len, cap, ss, hcs, _, hl, hm, hz, _, hcell, hsz⟩
  · have hv : Value.slice a' len' cap' = .slice none 0 0 := by simpa [Value.cells] using hcs
    rw [hv]
    exact ⟨[], by simp, by simp, Sl.nil⟩
  · have hv : Value.slice a' len' cap' = .slice (some a) len cap := by simpa [Value.cells] using hcs
    rw [hv]
    have hls : len ≤ ss.length := by rw [hz]; split <;> omega
    have hlt : (ss.take len).length = len := by rw [List.length_take]; omega
    refine ⟨(ss.take len).map fun s => s.data.toList, ?_, by simp only [List.length_map, hlt]; simp only [maxLen] at hm; omega, ?_⟩
    · intro s hs
      obtain ⟨x, hx, rfl⟩ := List.mem_map.1 hs
      have := hsz x (List.mem_of_mem_take hx)
      unfold maxLen at this
      exact this
    · rw [List.length_map, hlt]
      refine ⟨by simp only [txts, List.length_map, hlt, Nat.mul_one], some a, cap, rfl, hl, hm, (fun h => by cases h), fun h0 => ?_⟩
      have hc0 := hcell 0 (by omega)
      have hblt := World.block_lt_of_cell? w _ hc0
      have hspot : a.spot = none := by
        cases hs : a.spot with
        | none => rfl
        | some z =>
          unfold World.cell? at hc0
          split at hc0
          · simp [Addr.add, hs] at hc0
          · cases hc0
      obtain ⟨ab, ao, asp⟩ := a
      simp only at hspot
      subst hspot
      refine ⟨ab, ao, rfl, by simpa [addr_add_none] using hblt, fun j u hu => ?_⟩
      have hj : j < len := by
        have := (List.getElem?_eq_some_iff.1 hu).1
        simp only [txts, List.length_map, hlt] at this
        exact this
      have hcj := hcell j (by omega)
      rw [addr_add_none] at hcj
      rw [hcj]
      simp only [txts, List.map_map, List.getElem?_map, List.getElem?_take, hj, if_true] at hu
      rw [List.getElem?_eq_getElem (by omega)] at hu
      simp only [Option.map_some, Function.comp_apply, st_of] at hu
      rw [List.getD_eq_getElem?_getD, List.getElem?_eq_getElem (by omega)]
      exact hu
end
end Go.Proofs.YtpmndmgfoiagnaaDoor
