/- A page among a row's arguments: its cells as a list. -/
import Derived.Test.YtlidbgidbpaenaaDoorPagA
import Derived.Test.YtlidbgidbpaenaaDoorRowE
namespace Go.Proofs.YtlidbgidbpaenaaDoor
open Go.ChangeShapes Go.WideShapes Go.ChangeAt Go.RowKit Go.Deep
set_option linter.unusedVariables false
section
variable {H : Type} {enc : TypeId × Value → H} {P : Program} {w : World} {base : Nat} {spare : Nat → Bool} {held : Bool}
/-- A slice of structs of two strings reads as cells. -/
theorem open_cels {t e : TypeId} {f0 f1 : Field} {v : Value} {fuel : Nat} {x : DataW H × List MemPlace} (ht : P.underlying t = some (.slice e)) (he : P.underlying e = some (.struct #[f0, f1])) (hone : oneCellFields P #[f0, f1] = true) (hC : P.cellsOf e = 2)
    (h0 : P.underlying f0.type = some .string) (h1 : P.underlying f1.type = some .string) (hf : DataW.trod enc P w base spare held fuel t [v] = some x) :
    ∃ l : List Cel, Cs (fun b => b < w.heap.size) w v l := by
  rcases open_slice_fields ht he hone (by simpa using hC) hf with ⟨hc, _⟩ | ⟨a, len, cap, m, D, Pl, hcs, _, hl, hcm, hm, _, hi⟩
  · obtain rfl : v = .slice none 0 0 := by simpa using hc
    exact ⟨[], Sl.nil⟩
  · have hlm : len ≤ m := by rw [hm]; split <;> omega
    have key : ∀ i, i < len → ∃ x y : ByteArray, w.cell? (a.add (i * 2)) = some (.string x) ∧ w.cell? (a.add (i * 2 + 1)) = some (.string y) := by
      intro i hil
      obtain ⟨ys, n, _, _, _, hfs⟩ := hi i (by omega)
      obtain ⟨v0, y0, c0, _, t0⟩ := hfs 0 f0 rfl
      obtain ⟨v1, y1, c1, _, t1⟩ := hfs 1 f1 rfl
      obtain ⟨x, e0, _, b0⟩ := DataW.trod_string h0 t0
      obtain ⟨y, e1, _, b1⟩ := DataW.trod_string h1 t1
      obtain rfl : v0 = _ := by simpa using e0
      obtain rfl : v1 = _ := by simpa using e1
      exact ⟨x, y, by simpa using c0, by simpa using c1⟩
    obtain rfl : v = .slice (some a) len cap := by simpa using hcs
    refine ⟨(List.range len).map fun i => if h : i < len then ((key i h).choose.data.toList, (key i h).choose_spec.choose.data.toList) else ([], []), ?_⟩
    have hll : ((List.range len).map fun i => if h : i < len then ((key i h).choose.data.toList, (key i h).choose_spec.choose.data.toList) else (([], []) : Cel)).length = len := by simp
    unfold Cs
    rw [hll]
    refine ⟨by rw [ccs_len, hll], some a, cap, rfl, hl, hcm, (fun h => by cases h), fun hl0 => ?_⟩
    obtain ⟨x, y, hc0, _⟩ := key 0 hl0
    have hblt := World.block_lt_of_cell? w _ hc0
    have hspot : a.spot = none := by
      cases hs : a.spot with
      | none => rfl
      | some z =>
        unfold World.cell? at hc0
        split at hc0
        · simp [Addr.add, hs] at hc0
        · cases hc0
    obtain ⟨ab, ao, asp⟩ := a
    simp only at hspot
    subst hspot
    refine ⟨ab, ao, rfl, by simpa [addr_add_none] using hblt, fun j u hu => ?_⟩
    have hjl : j < len * 2 := by
      have := (List.getElem?_eq_some_iff.1 hu).1
      rw [ccs_len, hll] at this
      exact this
    have hq : j / 2 < len := by omega
    have hk := (key (j / 2) hq).choose_spec.choose_spec
    have hat := ccs_at (cs := (List.range len).map fun i => if h : i < len then ((key i h).choose.data.toList, (key i h).choose_spec.choose.data.toList) else (([], []) : Cel)) (j := j / 2) (by rw [hll]; exact hq)
    simp only [List.getElem_map, List.getElem_range, hq, dite_true, st_of] at hat
    have hmod : j = j / 2 * 2 ∨ j = j / 2 * 2 + 1 := by omega
    rcases hmod with h | h
    · rw [h] at hu
      rw [h]
      rw [hat.1] at hu
      injection hu with hu
      subst hu
      exact (congrArg (fun p => w.cell? p) (addr_add_none ab ao (j / 2 * 2))).symm.trans hk.1
    · rw [h] at hu
      rw [h]
      rw [hat.2] at hu
      injection hu with hu
      subst hu
      exact (congrArg (fun p => w.cell? p) (addr_add_none ab ao (j / 2 * 2 + 1))).symm.trans hk.2
end
end Go.Proofs.YtlidbgidbpaenaaDoor
