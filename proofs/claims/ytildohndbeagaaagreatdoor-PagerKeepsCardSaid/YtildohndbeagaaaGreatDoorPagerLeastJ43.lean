/- What the proof of PagerLeast needs, part 43. -/
import Derived.Test.YtildohndbeagaaaGreatDoorPagerLeastJ4
import Derived.Test.YtildohndbeagaaaGreatDoorPagerLeastJ31
import Derived.Test.YtildohndbeagaaaGreatDoorPagerLeastJ42

namespace Go.Proofs.YtildohndbeagaaaGreatDoor
open Go Go.RowKit
set_option linter.unusedVariables false

/-- An act: v is the slice value of what is left. -/
structure PAct where
  kind : Int
  id : Int
  steps : Int
  tag : Nat
  body : List UInt8
  left : List (Int × Int)
  v : Value
def PAct.Ok (w : World) (x : PAct) : Prop := InI x.kind ∧ InI x.id ∧ InI x.steps ∧ x.tag < U64 ∧ (∀ y ∈ x.left, InI y.1 ∧ InI y.2) ∧ Sv (fun b => b < w.heap.size) w x.v x.left
/-- The slice value v reads as the acts xs. -/
def PActs (w : World) (v : Value) (xs : List PAct) : Prop := ∃ A c, v = .slice A xs.length c ∧ xs.length ≤ 9223372036854775807 ∧ (∀ x ∈ xs, x.Ok w) ∧
  (0 < xs.length → ∃ b o, A = some ⟨b, o, none⟩ ∧ b < w.heap.size ∧ ∀ j (hj : j < xs.length), w.cell? ⟨b, o + j * 6, none⟩ = some (.int .i64 xs[j].kind) ∧ w.cell? ⟨b, o + j * 6 + 1, none⟩ = some (.int .i64 xs[j].id) ∧ w.cell? ⟨b, o + j * 6 + 2, none⟩ = some (.int .i64 xs[j].steps) ∧ w.cell? ⟨b, o + j * 6 + 3, none⟩ = some (.int .u64 (xs[j].tag : Int)) ∧
    w.cell? ⟨b, o + j * 6 + 4, none⟩ = some (.string (st xs[j].body)) ∧ w.cell? ⟨b, o + j * 6 + 5, none⟩ = some xs[j].v)
theorem pactTy : StructTy Tryz.prog 54 6 := ⟨⟨_, Tryz.underlying54⟩, by kernel_rfl⟩

structure PwSt (w W : World) (X Z : Array Value) : Prop where
  x : Blk W w.heap.size 54 X
  z : Blk W (w.heap.size + 1) 54 Z
  below : Below w.heap.size w W
theorem PwSt.start (w : World) (X Z : Array Value) : PwSt w ((w.alloc (.cells X 54)).alloc (.cells Z 54)) X Z := by
  refine ⟨(Blk.new _ _ _).alloc _, ?_, ((Below.refl _ _).alloc (Nat.le_refl _) _).alloc (by simp) _⟩
  have := Blk.new (w.alloc (.cells X 54)) 54 Z
  simpa using this

theorem pfew_fin (w : World) (X Z : Array Value) : Blk ((w.alloc (.cells X 54)).alloc (.cells Z 54)) (w.heap.size + 1) 54 Z ∧ Below w.heap.size w ((w.alloc (.cells X 54)).alloc (.cells Z 54)) := ⟨(PwSt.start w X Z).z, (PwSt.start w X Z).below⟩
def PwPost (B : Nat) (x : PAct) (w : World) (e : Ending) (w' : World) : Prop :=
  ∃ v', e = .returned (.agg #[.int .i64 x.kind, .int .i64 x.id, .int .i64 x.steps, .int .u64 (x.tag : Int), .string (st (x.body.take 2100)), v']) ∧ Sv (fun b => b < B) w' v' (x.left.take 60) ∧ Below w.heap.size w w'

set_option maxHeartbeats 4000000 in
set_option maxRecDepth 100000 in
theorem few13_any (B : Nat) (x : PAct) (w : World) (hs : Sv (fun b => b < B) w x.v x.left) (hB : B ≤ w.heap.size) :
    Calls Tryz.prog 20 #[.agg #[.int .i64 x.kind, .int .i64 x.id, .int .i64 x.steps, .int .u64 (x.tag : Int), .string (st x.body), x.v]] w (PwPost B x w) := by
  obtain ⟨kind, id, steps, tag, body, left, v⟩ := x
  simp only at hs ⊢
  obtain ⟨A, c, rfl, hA⟩ := hs.at
  have HS := Lib.hid hs
  have S0 := Lib.hid (PwSt.start w #[.int .i64 kind, .int .i64 id, .int .i64 steps, .int .u64 (tag : Int), .string (st body), .slice A left.length c] #[.int .i64 0, .int .i64 0, .int .i64 0, .int .u64 0, .string (st []), .slice none 0 0])
  clear hs
  have hcl : left.length ≤ c := by
    obtain ⟨_, A', c', hv, h3, _⟩ := HS.out
    cases hv
    exact h3
  have HT : Hid (body.length ≤ 2100 → body.take 2100 = body) := fun h => List.take_of_length_le h
  have HTL : Hid (left.length ≤ 60 → left.take 60 = left) := fun h => List.take_of_length_le h
  by_cases hl : 60 < left.length
  · obtain ⟨b, o, rfl, -⟩ := hA (by omega)
    clear hA
    have hc0 : ¬ c = 0 := by omega
    have h20 : (60 : Int) ≤ (c : Int) := by omega
    have HP := Lib.hid (HS.out.pre (k := 60) (by omega))
    by_cases hb : 2100 < body.length
    · go_enter Tryz.func20, Tryz.ntmps20
      go_wp2_with fail
      refine bodyPost_ret (results_cell1 rfl _ _ (w.heap.size + 1) rfl (pfew_fin _ _ _).1 pactTy) rfl ⟨_, rfl, HP.out.later ((pfew_fin _ _ _).2.mono hB), (pfew_fin _ _ _).2⟩
    · have HTT := Lib.hid (HT.out (by omega))
      go_enter Tryz.func20, Tryz.ntmps20
      go_wp2_with fail
      refine bodyPost_ret (results_cell1 rfl _ _ (w.heap.size + 1) rfl (pfew_fin _ _ _).1 pactTy) rfl ⟨_, by simp only; rw [HTT.out], HP.out.later ((pfew_fin _ _ _).2.mono hB), (pfew_fin _ _ _).2⟩
  · have HTM := Lib.hid (HTL.out (by omega))
    clear hA
    by_cases hb : 2100 < body.length
    · go_enter Tryz.func20, Tryz.ntmps20
      go_wp2_with fail
      refine bodyPost_ret (results_cell1 rfl _ _ (w.heap.size + 1) rfl (pfew_fin _ _ _).1 pactTy) rfl ⟨_, rfl, by simp only; rw [HTM.out]; exact HS.out.later ((pfew_fin _ _ _).2.mono hB), (pfew_fin _ _ _).2⟩
    · have HTT := Lib.hid (HT.out (by omega))
      go_enter Tryz.func20, Tryz.ntmps20
      go_wp2_with fail
      refine bodyPost_ret (results_cell1 rfl _ _ (w.heap.size + 1) rfl (pfew_fin _ _ _).1 pactTy) rfl ⟨_, by simp only; rw [HTT.out], by simp only; rw [HTM.out]; exact HS.out.later ((pfew_fin _ _ _).2.mono hB), (pfew_fin _ _ _).2⟩
end Go.Proofs.YtildohndbeagaaaGreatDoor
