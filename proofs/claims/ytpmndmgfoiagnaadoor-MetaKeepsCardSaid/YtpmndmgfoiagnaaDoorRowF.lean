/- A slice of acts (two integers, a string, a slice of pairs of integers) among the arguments, opened as a list. No program is named here but for the acts' own type. -/
import Derived.Test.YtpmndmgfoiagnaaDoorMetI
import Derived.Test.YtpmndmgfoiagnaaDoorRowE
namespace Go.Proofs.YtpmndmgfoiagnaaDoor
open Go.ChangeShapes Go.WideShapes Go.ChangeAt Go.RowKit Go.Deep
set_option linter.unusedVariables false
section
variable {H : Type} {enc : TypeId × Value → H} {P : Program} {w : World} {base : Nat} {spare : Nat → Bool} {held : Bool}
theorem plain_of_cell {w : World} {a : Addr} {v : Value} (h : w.cell? a = some v) : a = ⟨a.block, a.off, none⟩ ∧ a.block < w.heap.size := by
  refine ⟨?_, World.block_lt_of_cell? w _ h⟩
  obtain ⟨ab, ao, asp⟩ := a
  cases asp with
  | none => rfl
  | some z =>
    unfold World.cell? at h
    split at h
    · simp at h
    · cases h
/-- A slice of pairs of integers, at one cell. -/
theorem open_surv {t e : TypeId} {f0 f1 : Field} {v : Value} {fuel : Nat} {x : DataW H × List MemPlace} (ht : P.underlying t = some (.slice e)) (he : P.underlying e = some (.struct #[f0, f1])) (hone : oneCellFields P #[f0, f1] = true) (hC : P.cellsOf e = 2)
    (h0 : P.underlying f0.type = some (.int .i64)) (h1 : P.underlying f1.type = some (.int .i64)) (hf : DataW.trod enc P w base spare held fuel t [v] = some x) :
    ∃ l : List (Int × Int), (∀ y ∈ l, InI y.1 ∧ InI y.2) ∧ Sv (fun b => b < w.heap.size) w v l := by
  rcases open_slice_fields ht he hone (by simpa using hC) hf with ⟨hc, _⟩ | ⟨a, len, cap, m, D, Pl, hcs, _, hl, hcm, hm, _, hi⟩
  · obtain rfl : v = .slice none 0 0 := by simpa using hc
    exact ⟨[], by simp, Sl.nil⟩
  · have hlm : len ≤ m := by rw [hm]; split <;> omega
    have key : ∀ i, i < len → ∃ x y : Int, w.cell? (a.add (i * 2)) = some (.int .i64 x) ∧ w.cell? (a.add (i * 2 + 1)) = some (.int .i64 y) ∧ InI x ∧ InI y := by
      intro i hil
      obtain ⟨ys, n, _, _, _, hfs⟩ := hi i (by omega)
      obtain ⟨v0, y0, c0, _, t0⟩ := hfs 0 f0 rfl
      obtain ⟨v1, y1, c1, _, t1⟩ := hfs 1 f1 rfl
      obtain ⟨x, e0, _, b0⟩ := DataW.trod_int h0 t0
      obtain ⟨y, e1, _, b1⟩ := DataW.trod_int h1 t1
      obtain rfl : v0 = _ := by simpa using e0
      obtain rfl : v1 = _ := by simpa using e1
      exact ⟨x, y, by simpa using c0, by simpa using c1, int_bd b0, int_bd b1⟩
    obtain rfl : v = .slice (some a) len cap := by simpa using hcs
    have hll : ((List.range len).map fun i => if h : i < len then ((key i h).choose, (key i h).choose_spec.choose) else ((0, 0) : Int × Int)).length = len := by simp
    refine ⟨(List.range len).map fun i => if h : i < len then ((key i h).choose, (key i h).choose_spec.choose) else (0, 0), ?_, ?_⟩
    · intro y hy
      obtain ⟨i, hi', rfl⟩ := List.mem_map.1 hy
      have hil := List.mem_range.1 hi'
      simp only [hil, dite_true]
      have := (key i hil).choose_spec.choose_spec
      exact ⟨this.2.2.1, this.2.2.2⟩
    · unfold Sv
      rw [hll]
      refine ⟨by rw [pcs_len, hll], some a, cap, rfl, hl, hcm, (fun h => by cases h), fun hl0 => ?_⟩
      obtain ⟨x, y, hc0, _⟩ := key 0 hl0
      obtain ⟨ab, ao, asp⟩ := a
      obtain ⟨hsp, hblt⟩ := plain_of_cell hc0
      simp [Addr.add] at hsp hblt
      subst hsp
      refine ⟨ab, ao, rfl, hblt, fun j u hu => ?_⟩
      have hjl : j < len * 2 := by
        have := (List.getElem?_eq_some_iff.1 hu).1
        rw [pcs_len, hll] at this
        exact this
      have hq : j / 2 < len := by omega
      have hk := (key (j / 2) hq).choose_spec.choose_spec
      have hat := pcs_at (l := (List.range len).map fun i => if h : i < len then ((key i h).choose, (key i h).choose_spec.choose) else ((0, 0) : Int × Int)) (j := j / 2) (by rw [hll]; exact hq)
      simp only [List.getElem_map, List.getElem_range, hq, dite_true] at hat
      have hmod : j = j / 2 * 2 ∨ j = j / 2 * 2 + 1 := by omega
      rcases hmod with h | h
      · rw [h] at hu
        rw [h]
        rw [hat.1] at hu
        injection hu with hu
        subst hu
        exact (congrArg (fun p => w.cell? p) (addr_add_none ab ao (j / 2 * 2))).symm.trans hk.1
      · rw [h] at hu
        rw [h]
        rw [hat.2] at hu
        injection hu with hu
        subst hu
        exact (congrArg (fun p => w.cell? p) (addr_add_none ab ao (j / 2 * 2 + 1))).symm.trans hk.2.1
theorem open_acts {r : Reach} {b0 : Nat} {t e ts es : TypeId} {f0 f1 f2 f3 g0 g1 : Field} {v : Value} {d : DataW H} {ps : List MemPlace} (ht : P.underlying t = some (.slice e)) (he : P.underlying e = some (.struct #[f0, f1, f2, f3])) (hone : oneCellFields P #[f0, f1, f2, f3] = true) (hC : P.cellsOf e = 4)
    (h0 : P.underlying f0.type = some (.int .i64)) (h1 : P.underlying f1.type = some (.int .i64)) (h2 : P.underlying f2.type = some .string) (h3 : f3.type = ts) (hts : P.underlying ts = some (.slice es)) (hes : P.underlying es = some (.struct #[g0, g1])) (hones : oneCellFields P #[g0, g1] = true) (hCs : P.cellsOf es = 2)
    (k0 : P.underlying g0.type = some (.int .i64)) (k1 : P.underlying g1.type = some (.int .i64)) (hval : Value.okWide P w r b0 t v) (h : DataW.Trod enc P w base spare held t v d ps) : ∃ xs : List MAct, Acts w v xs := by
  subst h3
  obtain ⟨fuel, hf⟩ := h
  obtain ⟨a', len', cap', rfl⟩ := okWide_slice ht hval
  rcases open_slice_fields ht he hone (by simpa using hC) hf with ⟨hc, _⟩ | ⟨a, len, cap, m, D, Pl, hcs, _, hl, hcm, hm, _, hi⟩
  · obtain ⟨rfl, rfl, rfl⟩ : a' = none ∧ len' = 0 ∧ cap' = 0 := by simpa [Value.cells] using hc
    exact ⟨[], none, 0, rfl, by simp, by simp, fun h => by simp at h⟩
  · have hlm : len ≤ m := by rw [hm]; split <;> omega
    have key : ∀ i, i < len → ∃ x : MAct, x.Ok w ∧ w.cell? (a.add (i * 4)) = some (.int .i64 x.kind) ∧ w.cell? (a.add (i * 4 + 1)) = some (.int .i64 x.steps) ∧ w.cell? (a.add (i * 4 + 2)) = some (.string (st x.body)) ∧ w.cell? (a.add (i * 4 + 3)) = some x.v := by
      intro i hil
      obtain ⟨ys, n, _, _, _, hfs⟩ := hi i (by omega)
      obtain ⟨v0, y0, c0, _, t0⟩ := hfs 0 f0 rfl
      obtain ⟨v1, y1, c1, _, t1⟩ := hfs 1 f1 rfl
      obtain ⟨v2, y2, c2, _, t2⟩ := hfs 2 f2 rfl
      obtain ⟨v3, y3, c3, _, t3⟩ := hfs 3 f3 rfl
      obtain ⟨x, e0, _, b0⟩ := DataW.trod_int h0 t0
      obtain ⟨y, e1, _, b1⟩ := DataW.trod_int h1 t1
      obtain ⟨s, e2, _, b2⟩ := DataW.trod_string h2 t2
      obtain rfl : v0 = _ := by simpa using e0
      obtain rfl : v1 = _ := by simpa using e1
      obtain rfl : v2 = _ := by simpa using e2
      obtain ⟨l, hlb, hsv⟩ := open_surv hts hes hones hCs k0 k1 t3
      exact ⟨⟨x, y, s.data.toList, l, v3⟩, ⟨int_bd b0, int_bd b1, hlb, hsv⟩, by simpa using c0, by simpa using c1, by simpa [st_of] using c2, by simpa using c3⟩
    obtain ⟨rfl, rfl, rfl⟩ : a' = some a ∧ len' = len ∧ cap' = cap := by simpa [Value.cells] using hcs
    have hll : ((List.range len').map fun i => if h : i < len' then (key i h).choose else (⟨0, 0, [], [], .slice none 0 0⟩ : MAct)).length = len' := by simp
    refine ⟨(List.range len').map fun i => if h : i < len' then (key i h).choose else (⟨0, 0, [], [], .slice none 0 0⟩ : MAct), some a, cap', by rw [hll], by rw [hll]; simp only [maxLen] at hcm; omega, ?_, fun hl0 => ?_⟩
    · intro y hy
      obtain ⟨i, hi', rfl⟩ := List.mem_map.1 hy
      have hil := List.mem_range.1 hi'
      simp only [hil, dite_true]
      exact (key i hil).choose_spec.1
    · rw [hll] at hl0
      obtain ⟨x, _, hc0, _⟩ := key 0 hl0
      obtain ⟨ab, ao, asp⟩ := a
      obtain ⟨hsp, hblt⟩ := plain_of_cell hc0
      simp [Addr.add] at hsp hblt
      subst hsp
      refine ⟨ab, ao, rfl, hblt, fun j hj => ?_⟩
      have hjl : j < len' := by rw [hll] at hj; exact hj
      have hk := (key j hjl).choose_spec.2
      simp only [List.getElem_map, List.getElem_range, hjl, dite_true]
      generalize (key j hjl).choose = y at hk ⊢
      simp only [addr_add_none, ← Nat.add_assoc] at hk
      exact hk
end
end Go.Proofs.YtpmndmgfoiagnaaDoor
