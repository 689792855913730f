/- What the proof of PagerLeast needs, the rows. -/
import Derived.Test.YtildohndbeagaaaGreatDoorPagerLeastJ1
import Derived.Test.YtildohndbeagaaaGreatDoorPagerLeastJ51
import Derived.Test.YtildohndbeagaaaGreatDoorRows
import Derived.ProofKit
import Derived.OpenShut
import Derived.ChangeMaps5
import Derived.Deep.DeepHandedRow
import Derived.Lib.LaidTab
import Derived.Lib.SmallJoins
import Derived.Deep.Slices
import Derived.Deep.Fields
import Derived.Test.YtildohndbeagaaaGreatDoorPagerLeastJ12
import Derived.LaidSub
import Derived.Test.YtildohndbeagaaaGreatDoorPagerLeastJ42
import Derived.Test.YtildohndbeagaaaGreatDoorPagerLeastJ43

namespace Go.Proofs.YtildohndbeagaaaGreatDoor
open Go.ChangeShapes Go.WideShapes Go.ChangeAt Go.RowKit
open Go.ChangeMaps (open_string shut_string)
set_option linter.unusedVariables false

theorem own : ownKnob Tryz.prog.godebug = none := by kernel_rfl
theorem laidOut : laidOutB Tryz.prog = true := by kernel_rfl
/-- The reading stays among the rows of the table of types. -/
theorem kids : Kids Tryz.prog (· < Tryz.prog.types.size) := kids_rows laidOut (by kernel_rfl)
theorem full : ∀ t e, t < Tryz.prog.types.size → Tryz.prog.underlying t = some (.slice e) → 0 < Tryz.prog.cellsOf e := slices_full_of _ (by kernel_rfl)
theorem gTab : Tryz.prog.globalNamed "lapstone/num.bits" = some 0 := by kernel_rfl
theorem gTabType : (Tryz.prog.globals[0]?).map (·.type) = some 170 := by kernel_rfl
theorem cellsT : Tryz.prog.cellsOf 170 = 9 := by kernel_rfl
theorem cellsE : Tryz.prog.cellsOf 161 = 1 := by kernel_rfl

theorem bytes_len (s : ByteArray) : s.data.toList.length = s.size := rfl
theorem u64_nat {x : Int} (h : (Lit.int .u64 x).wf = true) : ∃ y : Nat, x = (y : Int) ∧ y < U64 := by
  simp only [Lit.wf, Bool.and_eq_true, decide_eq_true_eq] at h
  have h0 : IntKind.u64.min = 0 := rfl
  have h1 : IntKind.u64.max = 18446744073709551615 := rfl
  refine ⟨x.toNat, by omega, ?_⟩
  unfold U64
  omega
theorem u32_nat {x : Int} (h : (Lit.int .u32 x).wf = true) : ∃ y : Nat, x = (y : Int) ∧ y < 4294967296 := by
  simp only [Lit.wf, Bool.and_eq_true, decide_eq_true_eq] at h
  have h0 : IntKind.u32.min = 0 := rfl
  have h1 : IntKind.u32.max = 4294967295 := rfl
  exact ⟨x.toNat, by omega, by omega⟩
theorem u16_nat {x : Int} (h : (Lit.int .u16 x).wf = true) : ∃ y : Nat, x = (y : Int) ∧ y < 65536 := by
  simp only [Lit.wf, Bool.and_eq_true, decide_eq_true_eq] at h
  have h0 : IntKind.u16.min = 0 := rfl
  have h1 : IntKind.u16.max = 65535 := rfl
  exact ⟨x.toNat, by omega, by omega⟩
theorem u8_nat {x : Int} (h : (Lit.int .u8 x).wf = true) : ∃ y : Nat, x = (y : Int) ∧ y < 256 := by
  simp only [Lit.wf, Bool.and_eq_true, decide_eq_true_eq] at h
  have h0 : IntKind.u8.min = 0 := rfl
  have h1 : IntKind.u8.max = 255 := rfl
  exact ⟨x.toNat, by omega, by omega⟩
theorem int_bd {x : Int} (h : (Lit.int .i64 x).wf = true) : -9223372036854775808 ≤ x ∧ x ≤ 9223372036854775807 := by
  simp only [Lit.wf, Bool.and_eq_true, decide_eq_true_eq] at h
  exact h
theorem str_len {s : ByteArray} (h : s.size ≤ maxLen) : s.data.toList.length ≤ 9223372036854775807 := by
  rw [bytes_len]
  simp only [maxLen] at h
  omega

/-- WHAT THE ROWS' LIST GIVES: the table's cells hold its nine numbers. -/
theorem table {W : World} (h : laidMetH Tryz.prog [("lapstone/num.bits", Rows.laid_lapstone_num_bits)] W) : Lib.TabIs Tryz.prog W "lapstone/num.bits" .u64 [0, 8, 16, 24, 32, 40, 48, 56, 64] :=
  Lib.tabIs_of_head (rest := []) gTab gTabType Tryz.underlying170 Tryz.underlying161 cellsE cellsT h
theorem bitsOk {W : World} (h : laidMetH Tryz.prog [("lapstone/num.bits", Rows.laid_lapstone_num_bits)] W) : BitsOk W := by
  intro i hi
  have hc := (table h).cell gTab i hi
  rw [hc]
  match i, hi with
  | 0, _ | 1, _ | 2, _ | 3, _ | 4, _ | 5, _ | 6, _ | 7, _ | 8, _ => rfl

/-- A WORLD FOR THE WITNESS: the settled one, the table (block 0) holding what its initialiser lays. -/
noncomputable def laidWorld (os : Os) : World :=
  { World.holding Tryz.prog os ⟨#[], #[], []⟩ with heap := (World.holding Tryz.prog os ⟨#[], #[], []⟩).heap.modify 0 fun
      | .cells _ t frozen => .cells #[.int .u64 0, .int .u64 8, .int .u64 16, .int .u64 24, .int .u64 32, .int .u64 40, .int .u64 48, .int .u64 56, .int .u64 64] t frozen
      | o => o }
end Go.Proofs.YtildohndbeagaaaGreatDoor

namespace Go.Proofs.YtildohndbeagaaaGreatDoor
open Go.ChangeShapes Go.WideShapes Go.ChangeAt Go.RowKit Go.Deep
set_option linter.unusedVariables false
section
variable {H : Type} {enc : TypeId × Value → H} {P : Program} {w : World} {base : Nat} {spare : Nat → Bool} {held : Bool}
/-- A slice of structs, opened: each field's cell and reading. -/
theorem open_slice_fields {t e : TypeId} {fs : Array Field} {fuel : Nat} {cs : List Value} {x : DataW H × List MemPlace} (ht : P.underlying t = some (.slice e)) (he : P.underlying e = some (.struct fs))
    (hone : oneCellFields P fs = true) (hC : P.cellsOf e = fs.size) (h : DataW.trod enc P w base spare held fuel t cs = some x) :
    (cs = [.slice none 0 0] ∧ x = (.nil, [])) ∨
    ∃ (a : Addr) (len cap m : Nat) (D : Nat → DataW H) (Pl : Nat → List MemPlace), cs = [.slice (some a) len cap] ∧ base ≤ a.block ∧ len ≤ cap ∧ cap ≤ maxLen ∧ m = (if spare a.block then cap else len) ∧
      x = (.slice ((List.range len).map D) ((List.range (m - len)).map fun j => D (len + j)), MemPlace.row a (m * fs.size) ++ (List.range m).flatMap Pl) ∧
      ∀ i, i < m → ∃ (ys : List (DataW H × List MemPlace)) (n : Nat), D i = .agg (ys.map (·.1)) ∧ Pl i = ys.flatMap (·.2) ∧ ys.length = fs.size ∧
        ∀ (j : Nat) (f : Field), fs[j]? = some f → ∃ (v : Value) (y : DataW H × List MemPlace), w.cell? (a.add (i * fs.size + j)) = some v ∧ ys[j]? = some y ∧ DataW.trod enc P w base spare held n f.type [v] = some y := by
  rcases open_slice ht h with h0 | ⟨a, len, cap, m, n, D, Pl, hcs, hb, hl, hm, hmm, hx, hi⟩
  · exact .inl h0
  · refine .inr ⟨a, len, cap, m, D, Pl, hcs, hb, hl, hm, hmm, by rw [hC] at hx; exact hx, fun i him => ?_⟩
    obtain ⟨cs', hc, ht'⟩ := hi i him
    rw [hC] at hc
    obtain ⟨ys, n', hn', hy, hlen, hyl, hf⟩ := DataW.trod_struct he ht'
    obtain ⟨_, hcl, hat⟩ := World.cells?_some hc
    simp only [Prod.mk.injEq] at hy
    refine ⟨ys, n', hy.1, hy.2, hyl, fun j f hj => ?_⟩
    obtain ⟨ho, hk⟩ := hone_of hone j f hj
    have hjl : j < fs.size := (Array.getElem?_eq_some_iff.1 hj).1
    have hcell := hat j hjl
    have hv : cs'[j]? = some (cs'[j]'(by omega)) := List.getElem?_eq_getElem (by omega)
    have h1 := hf j f hj
    rw [ho, hk] at h1
    have hone' : (cs'.drop j).take 1 = [cs'[j]'(by omega)] := by
      rw [List.drop_eq_getElem_cons (by omega)]
      rfl
    rw [hone'] at h1
    have hys : ys[j]? = some (ys[j]'(by omega)) := List.getElem?_eq_getElem (by omega)
    refine ⟨_, _, ?_, hys, h1.trans hys⟩
    rw [← Go.Deep.add_add, hcell, hv]
end
end Go.Proofs.YtildohndbeagaaaGreatDoor

namespace Go.Proofs.YtildohndbeagaaaGreatDoor
open Go.ChangeShapes Go.WideShapes Go.ChangeAt Go.RowKit Go.Deep
set_option linter.unusedVariables false

theorem gTabD : Tryz.prog.globalNamed "math/bits.deBruijn64tab" = some 1 := by kernel_rfl
theorem gTabTypeD : (Tryz.prog.globals[1]?).map (·.type) = some 172 := by kernel_rfl
theorem cellsTD : Tryz.prog.cellsOf 172 = 64 := by kernel_rfl
theorem cellsED : Tryz.prog.cellsOf 5 = 1 := by kernel_rfl
def tabL : List Int := [0, 1, 56, 2, 57, 49, 28, 3, 61, 58, 42, 50, 38, 29, 17, 4, 62, 47, 59, 36, 45, 43, 51, 22, 53, 39, 33, 30, 24, 18, 12, 5, 63, 55, 48, 27, 60, 41, 37, 16, 46, 35, 44, 21, 52, 32, 23, 11, 54, 26, 40, 15, 34, 20, 31, 10, 25, 14, 19, 9, 13, 8, 7, 6]
theorem tabL_at : ∀ j, j < 64 → tabL.getD j 0 = (Lib.deBruijn64tab.getD j 0 : Int) := by decide +kernel
theorem tableD {W : World} (h : laidMetH Tryz.prog [("math/bits.deBruijn64tab", Rows.laid_math_bits_deBruijn64tab)] W) : Lib.TabIs Tryz.prog W "math/bits.deBruijn64tab" .u8 tabL :=
  Lib.tabIs_of_head (rest := []) gTabD gTabTypeD Tryz.underlying172 Tryz.underlying5 cellsED cellsTD h
theorem tabOk {W : World} (h : laidMetH Tryz.prog [("math/bits.deBruijn64tab", Rows.laid_math_bits_deBruijn64tab)] W) : TabOk W := by
  intro j hj
  have hc := (tableD h).cell gTabD j (by simpa [tabL] using hj)
  rw [tabL_at j hj] at hc
  exact hc
/-- A world for the witness. -/
noncomputable def laidWorldD (os : Os) : World :=
  { World.holding Tryz.prog os ⟨#[], #[], []⟩ with heap := (World.holding Tryz.prog os ⟨#[], #[], []⟩).heap.modify 1 fun
      | .cells _ t frozen => .cells #[.int .u8 0, .int .u8 1, .int .u8 56, .int .u8 2, .int .u8 57, .int .u8 49, .int .u8 28, .int .u8 3, .int .u8 61, .int .u8 58, .int .u8 42, .int .u8 50, .int .u8 38, .int .u8 29, .int .u8 17, .int .u8 4, .int .u8 62, .int .u8 47, .int .u8 59, .int .u8 36, .int .u8 45, .int .u8 43, .int .u8 51, .int .u8 22, .int .u8 53, .int .u8 39, .int .u8 33, .int .u8 30, .int .u8 24, .int .u8 18, .int .u8 12, .int .u8 5, .int .u8 63, .int .u8 55, .int .u8 48, .int .u8 27, .int .u8 60, .int .u8 41, .int .u8 37, .int .u8 16, .int .u8 46, .int .u8 35, .int .u8 44, .int .u8 21, .int .u8 52, .int .u8 32, .int .u8 23, .int .u8 11, .int .u8 54, .int .u8 26, .int .u8 40, .int .u8 15, .int .u8 34, .int .u8 20, .int .u8 31, .int .u8 10, .int .u8 25, .int .u8 14, .int .u8 19, .int .u8 9, .int .u8 13, .int .u8 8, .int .u8 7, .int .u8 6] t frozen
      | o => o }

section
variable {H : Type} {enc : TypeId × Value → H} {P : Program} {w : World} {base : Nat} {spare : Nat → Bool} {held : Bool}
/-- A slice of structs of two integers reads as a list of pairs. -/
theorem open_pairs {r : Reach} {b0 : Nat} {t e : TypeId} {f0 f1 : Field} {v : Value} {d : DataW H} {ps : List MemPlace} (ht : P.underlying t = some (.slice e)) (he : P.underlying e = some (.struct #[f0, f1])) (hone : oneCellFields P #[f0, f1] = true) (hC : P.cellsOf e = 2)
    (h0 : P.underlying f0.type = some (.int .i64)) (h1 : P.underlying f1.type = some (.int .i64)) (hval : Value.okWide P w r b0 t v) (h : DataW.Trod enc P w base spare held t v d ps) :
    ∃ (l : List (Int × Int)) (A : Option Addr) (c : Nat), v = .slice A l.length c ∧ l.length ≤ 9223372036854775807 ∧ (∀ x ∈ l, (-9223372036854775808 ≤ x.1 ∧ x.1 ≤ 9223372036854775807) ∧ -9223372036854775808 ≤ x.2 ∧ x.2 ≤ 9223372036854775807) ∧
      (0 < l.length → ∃ b o, A = some ⟨b, o, none⟩ ∧ b < w.heap.size ∧ ∀ i (h : i < l.length), w.cell? ⟨b, o + i * 2, none⟩ = some (.int .i64 l[i].1) ∧ w.cell? ⟨b, o + i * 2 + 1, none⟩ = some (.int .i64 l[i].2)) := by
  obtain ⟨fuel, hf⟩ := h
  obtain ⟨a', len', cap', rfl⟩ := okWide_slice ht hval
  rcases open_slice_fields ht he hone (by simpa using hC) hf with ⟨hc, _⟩ | ⟨a, len, cap, m, D, Pl, hcs, _, hl, hcm, hm, _, hi⟩
  · refine ⟨[], none, 0, by simpa [Value.cells] using hc, by simp, by simp, fun h => by simp at h⟩
  · have hlm : len ≤ m := by rw [hm]; split <;> omega
    have key : ∀ i, i < len → ∃ x y : Int, w.cell? (a.add (i * 2)) = some (.int .i64 x) ∧ w.cell? (a.add (i * 2 + 1)) = some (.int .i64 y) ∧ (-9223372036854775808 ≤ x ∧ x ≤ 9223372036854775807) ∧ -9223372036854775808 ≤ y ∧ y ≤ 9223372036854775807 := by
      intro i hil
      obtain ⟨ys, n, _, _, _, hfs⟩ := hi i (by omega)
      obtain ⟨v0, y0, c0, _, t0⟩ := hfs 0 f0 rfl
      obtain ⟨v1, y1, c1, _, t1⟩ := hfs 1 f1 rfl
      obtain ⟨x, e0, _, b0⟩ := DataW.trod_int h0 t0
      obtain ⟨y, e1, _, b1⟩ := DataW.trod_int h1 t1
      obtain rfl : v0 = _ := by simpa using e0
      obtain rfl : v1 = _ := by simpa using e1
      exact ⟨x, y, by simpa using c0, by simpa using c1, int_bd b0, int_bd b1⟩
    have hsz : Value.slice a' len' cap' = .slice (some a) len cap := by simpa [Value.cells] using hcs
    rw [hsz]
    refine ⟨(List.range len).map fun i => if h : i < len then ((key i h).choose, (key i h).choose_spec.choose) else (0, 0), some a, cap, by simp, by simp; simp only [maxLen] at hcm; omega, ?_, ?_⟩
    · intro x hx
      obtain ⟨i, hi', rfl⟩ := List.mem_map.1 hx
      have hil := List.mem_range.1 hi'
      simp only [hil, dite_true]
      have := (key i hil).choose_spec.choose_spec
      exact ⟨this.2.2.1, this.2.2.2⟩
    · intro h0'
      have hl0 : 0 < len := by simpa using h0'
      obtain ⟨x, y, hc0, _⟩ := key 0 hl0
      have hblt := World.block_lt_of_cell? w _ hc0
      have hspot : a.spot = none := by
        cases hs : a.spot with
        | none => rfl
        | some z =>
          unfold World.cell? at hc0
          split at hc0
          · simp [Addr.add, hs] at hc0
          · cases hc0
      obtain ⟨ab, ao, asp⟩ := a
      simp only at hspot
      subst hspot
      refine ⟨ab, ao, rfl, by simpa [addr_add_none] using hblt, fun i hil => ?_⟩
      have hil' : i < len := by simpa using hil
      have := (key i hil').choose_spec.choose_spec
      simp only [List.getElem_map, List.getElem_range, hil', dite_true]
      refine ⟨?_, ?_⟩
      · exact (congrArg (fun p => w.cell? p) (addr_add_none ab ao (i * 2))).symm.trans this.1
      · exact ((congrArg (fun p => w.cell? p) (addr_add_none ab ao (i * 2 + 1))).trans (by rw [Nat.add_assoc])).symm.trans this.2.1
end
end Go.Proofs.YtildohndbeagaaaGreatDoor

namespace Go.Proofs.YtildohndbeagaaaGreatDoor
open Go.ChangeShapes Go.WideShapes Go.ChangeAt Go.RowKit Go.Deep
set_option linter.unusedVariables false

theorem bothOk {W : World} (h : laidMetH Tryz.prog [("lapstone/num.bits", Rows.laid_lapstone_num_bits), ("math/bits.deBruijn64tab", Rows.laid_math_bits_deBruijn64tab)] W) : BitsOk W ∧ TabOk W := by
  have h1 := laidMetH.filter (fun x => x.1 == "lapstone/num.bits") h
  have h2 := laidMetH.filter (fun x => x.1 == "math/bits.deBruijn64tab") h
  exact ⟨bitsOk h1, tabOk h2⟩
/-- A world for the witness. -/
noncomputable def laidWorldB (os : Os) : World :=
  { laidWorldD os with heap := (laidWorldD os).heap.modify 0 fun
      | .cells _ t frozen => .cells #[.int .u64 0, .int .u64 8, .int .u64 16, .int .u64 24, .int .u64 32, .int .u64 40, .int .u64 48, .int .u64 56, .int .u64 64] t frozen
      | o => o }
end Go.Proofs.YtildohndbeagaaaGreatDoor

namespace Go.Proofs.YtildohndbeagaaaGreatDoor
open Go.ChangeShapes Go.WideShapes Go.ChangeAt Go.RowKit Go.Deep
set_option linter.unusedVariables false
section
variable {H : Type} {enc : TypeId × Value → H} {P : Program} {w : World} {base : Nat} {spare : Nat → Bool} {held : Bool}
theorem plain_of_cell {w : World} {a : Addr} {v : Value} (h : w.cell? a = some v) : a = ⟨a.block, a.off, none⟩ ∧ a.block < w.heap.size := by
  refine ⟨?_, World.block_lt_of_cell? w _ h⟩
  obtain ⟨ab, ao, asp⟩ := a
  cases asp with
  | none => rfl
  | some z =>
    unfold World.cell? at h
    split at h
    · simp at h
    · cases h
/-- A slice of pairs of integers, at one cell. -/
theorem open_surv {t e : TypeId} {f0 f1 : Field} {v : Value} {fuel : Nat} {x : DataW H × List MemPlace} (ht : P.underlying t = some (.slice e)) (he : P.underlying e = some (.struct #[f0, f1])) (hone : oneCellFields P #[f0, f1] = true) (hC : P.cellsOf e = 2)
    (h0 : P.underlying f0.type = some (.int .i64)) (h1 : P.underlying f1.type = some (.int .i64)) (hf : DataW.trod enc P w base spare held fuel t [v] = some x) :
    ∃ l : List (Int × Int), (∀ y ∈ l, InI y.1 ∧ InI y.2) ∧ Sv (fun b => b < w.heap.size) w v l := by
  rcases open_slice_fields ht he hone (by simpa using hC) hf with ⟨hc, _⟩ | ⟨a, len, cap, m, D, Pl, hcs, _, hl, hcm, hm, _, hi⟩
  · obtain rfl : v = .slice none 0 0 := by simpa using hc
    exact ⟨[], by simp, Sl.nil⟩
  · have hlm : len ≤ m := by rw [hm]; split <;> omega
    have key : ∀ i, i < len → ∃ x y : Int, w.cell? (a.add (i * 2)) = some (.int .i64 x) ∧ w.cell? (a.add (i * 2 + 1)) = some (.int .i64 y) ∧ InI x ∧ InI y := by
      intro i hil
      obtain ⟨ys, n, _, _, _, hfs⟩ := hi i (by omega)
      obtain ⟨v0, y0, c0, _, t0⟩ := hfs 0 f0 rfl
      obtain ⟨v1, y1, c1, _, t1⟩ := hfs 1 f1 rfl
      obtain ⟨x, e0, _, b0⟩ := DataW.trod_int h0 t0
      obtain ⟨y, e1, _, b1⟩ := DataW.trod_int h1 t1
      obtain rfl : v0 = _ := by simpa using e0
      obtain rfl : v1 = _ := by simpa using e1
      exact ⟨x, y, by simpa using c0, by simpa using c1, int_bd b0, int_bd b1⟩
    obtain rfl : v = .slice (some a) len cap := by simpa using hcs
    have hll : ((List.range len).map fun i => if h : i < len then ((key i h).choose, (key i h).choose_spec.choose) else ((0, 0) : Int × Int)).length = len := by simp
    refine ⟨(List.range len).map fun i => if h : i < len then ((key i h).choose, (key i h).choose_spec.choose) else (0, 0), ?_, ?_⟩
    · intro y hy
      obtain ⟨i, hi', rfl⟩ := List.mem_map.1 hy
      have hil := List.mem_range.1 hi'
      simp only [hil, dite_true]
      have := (key i hil).choose_spec.choose_spec
      exact ⟨this.2.2.1, this.2.2.2⟩
    · unfold Sv
      rw [hll]
      refine ⟨by rw [pcs_len, hll], some a, cap, rfl, hl, hcm, (fun h => by cases h), fun hl0 => ?_⟩
      obtain ⟨x, y, hc0, _⟩ := key 0 hl0
      obtain ⟨ab, ao, asp⟩ := a
      obtain ⟨hsp, hblt⟩ := plain_of_cell hc0
      simp [Addr.add] at hsp hblt
      subst hsp
      refine ⟨ab, ao, rfl, hblt, fun j u hu => ?_⟩
      have hjl : j < len * 2 := by
        have := (List.getElem?_eq_some_iff.1 hu).1
        rw [pcs_len, hll] at this
        exact this
      have hq : j / 2 < len := by omega
      have hk := (key (j / 2) hq).choose_spec.choose_spec
      have hat := pcs_at (l := (List.range len).map fun i => if h : i < len then ((key i h).choose, (key i h).choose_spec.choose) else ((0, 0) : Int × Int)) (j := j / 2) (by rw [hll]; exact hq)
      simp only [List.getElem_map, List.getElem_range, hq, dite_true] at hat
      have hmod : j = j / 2 * 2 ∨ j = j / 2 * 2 + 1 := by omega
      rcases hmod with h | h
      · rw [h] at hu
        rw [h]
        rw [hat.1] at hu
        injection hu with hu
        subst hu
        exact (congrArg (fun p => w.cell? p) (addr_add_none ab ao (j / 2 * 2))).symm.trans hk.1
      · rw [h] at hu
        rw [h]
        rw [hat.2] at hu
        injection hu with hu
        subst hu
        exact (congrArg (fun p => w.cell? p) (addr_add_none ab ao (j / 2 * 2 + 1))).symm.trans hk.2.1
theorem open_acts {r : Reach} {b0 : Nat} {t e ts es : TypeId} {f0 f1 f2 f3 g0 g1 : Field} {v : Value} {d : DataW H} {ps : List MemPlace} (ht : P.underlying t = some (.slice e)) (he : P.underlying e = some (.struct #[f0, f1, f2, f3])) (hone : oneCellFields P #[f0, f1, f2, f3] = true) (hC : P.cellsOf e = 4)
    (h0 : P.underlying f0.type = some (.int .i64)) (h1 : P.underlying f1.type = some (.int .i64)) (h2 : P.underlying f2.type = some .string) (h3 : f3.type = ts) (hts : P.underlying ts = some (.slice es)) (hes : P.underlying es = some (.struct #[g0, g1])) (hones : oneCellFields P #[g0, g1] = true) (hCs : P.cellsOf es = 2)
    (k0 : P.underlying g0.type = some (.int .i64)) (k1 : P.underlying g1.type = some (.int .i64)) (hval : Value.okWide P w r b0 t v) (h : DataW.Trod enc P w base spare held t v d ps) : ∃ xs : List MAct, Acts w v xs := by
  subst h3
  obtain ⟨fuel, hf⟩ := h
  obtain ⟨a', len', cap', rfl⟩ := okWide_slice ht hval
  rcases open_slice_fields ht he hone (by simpa using hC) hf with ⟨hc, _⟩ | ⟨a, len, cap, m, D, Pl, hcs, _, hl, hcm, hm, _, hi⟩
  · obtain ⟨rfl, rfl, rfl⟩ : a' = none ∧ len' = 0 ∧ cap' = 0 := by simpa [Value.cells] using hc
    exact ⟨[], none, 0, rfl, by simp, by simp, fun h => by simp at h⟩
  · have hlm : len ≤ m := by rw [hm]; split <;> omega
    have key : ∀ i, i < len → ∃ x : MAct, x.Ok w ∧ w.cell? (a.add (i * 4)) = some (.int .i64 x.kind) ∧ w.cell? (a.add (i * 4 + 1)) = some (.int .i64 x.steps) ∧ w.cell? (a.add (i * 4 + 2)) = some (.string (st x.body)) ∧ w.cell? (a.add (i * 4 + 3)) = some x.v := by
      intro i hil
      obtain ⟨ys, n, _, _, _, hfs⟩ := hi i (by omega)
      obtain ⟨v0, y0, c0, _, t0⟩ := hfs 0 f0 rfl
      obtain ⟨v1, y1, c1, _, t1⟩ := hfs 1 f1 rfl
      obtain ⟨v2, y2, c2, _, t2⟩ := hfs 2 f2 rfl
      obtain ⟨v3, y3, c3, _, t3⟩ := hfs 3 f3 rfl
      obtain ⟨x, e0, _, b0⟩ := DataW.trod_int h0 t0
      obtain ⟨y, e1, _, b1⟩ := DataW.trod_int h1 t1
      obtain ⟨s, e2, _, b2⟩ := DataW.trod_string h2 t2
      obtain rfl : v0 = _ := by simpa using e0
      obtain rfl : v1 = _ := by simpa using e1
      obtain rfl : v2 = _ := by simpa using e2
      obtain ⟨l, hlb, hsv⟩ := open_surv hts hes hones hCs k0 k1 t3
      exact ⟨⟨x, y, s.data.toList, l, v3⟩, ⟨int_bd b0, int_bd b1, hlb, hsv⟩, by simpa using c0, by simpa using c1, by simpa [st_of] using c2, by simpa using c3⟩
    obtain ⟨rfl, rfl, rfl⟩ : a' = some a ∧ len' = len ∧ cap' = cap := by simpa [Value.cells] using hcs
    have hll : ((List.range len').map fun i => if h : i < len' then (key i h).choose else (⟨0, 0, [], [], .slice none 0 0⟩ : MAct)).length = len' := by simp
    refine ⟨(List.range len').map fun i => if h : i < len' then (key i h).choose else (⟨0, 0, [], [], .slice none 0 0⟩ : MAct), some a, cap', by rw [hll], by rw [hll]; simp only [maxLen] at hcm; omega, ?_, fun hl0 => ?_⟩
    · intro y hy
      obtain ⟨i, hi', rfl⟩ := List.mem_map.1 hy
      have hil := List.mem_range.1 hi'
      simp only [hil, dite_true]
      exact (key i hil).choose_spec.1
    · rw [hll] at hl0
      obtain ⟨x, _, hc0, _⟩ := key 0 hl0
      obtain ⟨ab, ao, asp⟩ := a
      obtain ⟨hsp, hblt⟩ := plain_of_cell hc0
      simp [Addr.add] at hsp hblt
      subst hsp
      refine ⟨ab, ao, rfl, hblt, fun j hj => ?_⟩
      have hjl : j < len' := by rw [hll] at hj; exact hj
      have hk := (key j hjl).choose_spec.2
      simp only [List.getElem_map, List.getElem_range, hjl, dite_true]
      generalize (key j hjl).choose = y at hk ⊢
      simp only [addr_add_none, ← Nat.add_assoc] at hk
      exact hk
end
end Go.Proofs.YtildohndbeagaaaGreatDoor

namespace Go.Proofs.YtildohndbeagaaaGreatDoor
open Go.ChangeShapes Go.WideShapes Go.ChangeAt Go.RowKit Go.Deep
set_option linter.unusedVariables false
section
variable {H : Type} {enc : TypeId × Value → H} {P : Program} {w : World} {base : Nat} {spare : Nat → Bool} {held : Bool}
theorem open_pacts {r : Reach} {b0 : Nat} {t e ts es : TypeId} {f0 f1 f2 f3 f4 f5 g0 g1 : Field} {v : Value} {d : DataW H} {ps : List MemPlace} (ht : P.underlying t = some (.slice e)) (he : P.underlying e = some (.struct #[f0, f1, f2, f3, f4, f5])) (hone : oneCellFields P #[f0, f1, f2, f3, f4, f5] = true) (hC : P.cellsOf e = 6)
    (h0 : P.underlying f0.type = some (.int .i64)) (h1 : P.underlying f1.type = some (.int .i64)) (h2 : P.underlying f2.type = some (.int .i64)) (h5 : P.underlying f3.type = some (.int .u64)) (h4 : P.underlying f4.type = some .string) (h3 : f5.type = ts) (hts : P.underlying ts = some (.slice es)) (hes : P.underlying es = some (.struct #[g0, g1])) (hones : oneCellFields P #[g0, g1] = true) (hCs : P.cellsOf es = 2)
    (k0 : P.underlying g0.type = some (.int .i64)) (k1 : P.underlying g1.type = some (.int .i64)) (hval : Value.okWide P w r b0 t v) (h : DataW.Trod enc P w base spare held t v d ps) : ∃ xs : List PAct, PActs w v xs := by
  subst h3
  obtain ⟨fuel, hf⟩ := h
  obtain ⟨a', len', cap', rfl⟩ := okWide_slice ht hval
  rcases open_slice_fields ht he hone (by simpa using hC) hf with ⟨hc, _⟩ | ⟨a, len, cap, m, D, Pl, hcs, _, hl, hcm, hm, _, hi⟩
  · obtain ⟨rfl, rfl, rfl⟩ : a' = none ∧ len' = 0 ∧ cap' = 0 := by simpa [Value.cells] using hc
    exact ⟨[], none, 0, rfl, by simp, by simp, fun h => by simp at h⟩
  · have hlm : len ≤ m := by rw [hm]; split <;> omega
    have key : ∀ i, i < len → ∃ x : PAct, x.Ok w ∧ w.cell? (a.add (i * 6)) = some (.int .i64 x.kind) ∧ w.cell? (a.add (i * 6 + 1)) = some (.int .i64 x.id) ∧ w.cell? (a.add (i * 6 + 2)) = some (.int .i64 x.steps) ∧ w.cell? (a.add (i * 6 + 3)) = some (.int .u64 (x.tag : Int)) ∧ w.cell? (a.add (i * 6 + 4)) = some (.string (st x.body)) ∧ w.cell? (a.add (i * 6 + 5)) = some x.v := by
      intro i hil
      obtain ⟨ys, n, _, _, _, hfs⟩ := hi i (by omega)
      obtain ⟨v0, y0, c0, _, t0⟩ := hfs 0 f0 rfl
      obtain ⟨v1, y1, c1, _, t1⟩ := hfs 1 f1 rfl
      obtain ⟨v2, y2, c2, _, t2⟩ := hfs 2 f2 rfl
      obtain ⟨v3, y3, c3, _, t3⟩ := hfs 3 f3 rfl
      obtain ⟨v4, y4, c4, _, t4⟩ := hfs 4 f4 rfl
      obtain ⟨v5, y5, c5, _, t5⟩ := hfs 5 f5 rfl
      obtain ⟨x, e0, _, b0⟩ := DataW.trod_int h0 t0
      obtain ⟨y, e1, _, b1⟩ := DataW.trod_int h1 t1
      obtain ⟨u, e2, _, b2⟩ := DataW.trod_int h2 t2
      obtain ⟨z, e3, _, b3⟩ := DataW.trod_int h5 t3
      obtain ⟨s, e4, _, b4⟩ := DataW.trod_string h4 t4
      obtain rfl : v0 = _ := by simpa using e0
      obtain rfl : v1 = _ := by simpa using e1
      obtain rfl : v2 = _ := by simpa using e2
      obtain rfl : v3 = _ := by simpa using e3
      obtain rfl : v4 = _ := by simpa using e4
      obtain ⟨q, rfl, hq⟩ := u64_nat b3
      obtain ⟨l, hlb, hsv⟩ := open_surv hts hes hones hCs k0 k1 t5
      exact ⟨⟨x, y, u, q, s.data.toList, l, v5⟩, ⟨int_bd b0, int_bd b1, int_bd b2, hq, hlb, hsv⟩, by simpa using c0, by simpa using c1, by simpa using c2, by simpa using c3, by simpa [st_of] using c4, by simpa using c5⟩
    obtain ⟨rfl, rfl, rfl⟩ : a' = some a ∧ len' = len ∧ cap' = cap := by simpa [Value.cells] using hcs
    have hll : ((List.range len').map fun i => if h : i < len' then (key i h).choose else (⟨0, 0, 0, 0, [], [], .slice none 0 0⟩ : PAct)).length = len' := by simp
    refine ⟨(List.range len').map fun i => if h : i < len' then (key i h).choose else (⟨0, 0, 0, 0, [], [], .slice none 0 0⟩ : PAct), some a, cap', by rw [hll], by rw [hll]; simp only [maxLen] at hcm; omega, ?_, fun hl0 => ?_⟩
    · intro y hy
      obtain ⟨i, hi', rfl⟩ := List.mem_map.1 hy
      have hil := List.mem_range.1 hi'
      simp only [hil, dite_true]
      exact (key i hil).choose_spec.1
    · rw [hll] at hl0
      obtain ⟨x, _, hc0, _⟩ := key 0 hl0
      obtain ⟨ab, ao, asp⟩ := a
      obtain ⟨hsp, hblt⟩ := plain_of_cell hc0
      simp [Addr.add] at hsp hblt
      subst hsp
      refine ⟨ab, ao, rfl, hblt, fun j hj => ?_⟩
      have hjl : j < len' := by rw [hll] at hj; exact hj
      have hk := (key j hjl).choose_spec.2
      simp only [List.getElem_map, List.getElem_range, hjl, dite_true]
      generalize (key j hjl).choose = y at hk ⊢
      simp only [addr_add_none, ← Nat.add_assoc] at hk
      exact hk
end
end Go.Proofs.YtildohndbeagaaaGreatDoor
