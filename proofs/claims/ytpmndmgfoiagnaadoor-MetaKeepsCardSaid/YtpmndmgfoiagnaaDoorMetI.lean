/- The acts of the meta page's laws: how they read, few. -/
import Derived.Test.YtpmndmgfoiagnaaDoorMetG
import Derived.Test.YtpmndmgfoiagnaaDoorRes
namespace Go.Proofs.YtpmndmgfoiagnaaDoor
open Go Go.RowKit
set_option linter.unusedVariables false

/-- An act: v is the slice value of what is left. -/
structure MAct where
  kind : Int
  steps : Int
  body : List UInt8
  left : List (Int × Int)
  v : Value
def MAct.Ok (w : World) (x : MAct) : Prop := InI x.kind ∧ InI x.steps ∧ (∀ y ∈ x.left, InI y.1 ∧ InI y.2) ∧ Sv (fun b => b < w.heap.size) w x.v x.left
/-- The slice value v reads as the acts xs. -/
def Acts (w : World) (v : Value) (xs : List MAct) : Prop := ∃ A c, v = .slice A xs.length c ∧ xs.length ≤ 9223372036854775807 ∧ (∀ x ∈ xs, x.Ok w) ∧
  (0 < xs.length → ∃ b o, A = some ⟨b, o, none⟩ ∧ b < w.heap.size ∧ ∀ j (hj : j < xs.length), w.cell? ⟨b, o + j * 4, none⟩ = some (.int .i64 xs[j].kind) ∧ w.cell? ⟨b, o + j * 4 + 1, none⟩ = some (.int .i64 xs[j].steps) ∧
    w.cell? ⟨b, o + j * 4 + 2, none⟩ = some (.string (st xs[j].body)) ∧ w.cell? ⟨b, o + j * 4 + 3, none⟩ = some xs[j].v)
theorem Sv.pre {S : Nat → Prop} {w : World} {n c : Nat} {A : Option Addr} {l : List (Int × Int)} (h : Sv S w (.slice A n c) l) {k : Nat} (hk : k ≤ l.length) : Sv S w (.slice A k c) (l.take k) := by
  obtain ⟨h1, A', c', hv, h3, h4, h5, h6⟩ := h
  cases hv
  have hpt : ∀ (l : List (Int × Int)) (k : Nat), (pcs l).take (k * 2) = pcs (l.take k) := by
    intro l
    induction l with
    | nil => intro k; simp [pcs]
    | cons r rs ih =>
      intro k
      rcases k with _ | k
      · simp [pcs]
      · have := ih k
        rw [show (k + 1) * 2 = k * 2 + 1 + 1 by omega]
        simp only [pcs, List.flatMap_cons, List.take_succ_cons] at this ⊢
        simp only [List.cons_append, List.nil_append, List.take_succ_cons]
        rw [this]
  have e : (l.take k).length = k := by rw [List.length_take]; omega
  refine ⟨by rw [pcs_len], A, c, by rw [e], by omega, h4, h5, fun hn => ?_⟩
  obtain ⟨b, o, ha, hs, hc⟩ := h6 (by omega)
  refine ⟨b, o, ha, hs, fun j u hu => ?_⟩
  rw [← hpt] at hu
  have hj := (List.getElem?_eq_some_iff.1 hu).1
  rw [List.length_take] at hj
  rw [List.getElem?_take_of_lt (by omega)] at hu
  exact hc j u hu
theorem Sv.later {w w' : World} {v : Value} {l : List (Int × Int)} {B : Nat} (h : Sv (fun b => b < B) w v l) (hb : Below B w w') : Sv (fun b => b < B) w' v l :=
  Sl.keep h fun b o hs => World.cell?_of_block (hb.block b hs)
theorem actTy : StructTy Tryd.prog 33 4 := ⟨⟨_, Tryd.underlying33⟩, by kernel_rfl⟩

structure FwSt (w W : World) (X Z : Array Value) : Prop where
  x : Blk W w.heap.size 33 X
  z : Blk W (w.heap.size + 1) 33 Z
  below : Below w.heap.size w W
theorem FwSt.start (w : World) (X Z : Array Value) : FwSt w ((w.alloc (.cells X 33)).alloc (.cells Z 33)) X Z := by
  refine ⟨(Blk.new _ _ _).alloc _, ?_, ((Below.refl _ _).alloc (Nat.le_refl _) _).alloc (by simp) _⟩
  have := Blk.new (w.alloc (.cells X 33)) 33 Z
  simpa using this

theorem few_fin (w : World) (X Z : Array Value) : Blk ((w.alloc (.cells X 33)).alloc (.cells Z 33)) (w.heap.size + 1) 33 Z ∧ Below w.heap.size w ((w.alloc (.cells X 33)).alloc (.cells Z 33)) := ⟨(FwSt.start w X Z).z, (FwSt.start w X Z).below⟩
def FwPost (B : Nat) (x : MAct) (w : World) (e : Ending) (w' : World) : Prop :=
  ∃ v', e = .returned (.agg #[.int .i64 x.kind, .int .i64 x.steps, .string (st (x.body.take 600)), v']) ∧ Sv (fun b => b < B) w' v' (x.left.take 20) ∧ Below w.heap.size w w'

set_option maxHeartbeats 4000000 in
set_option maxRecDepth 100000 in
theorem few12_any (B : Nat) (x : MAct) (w : World) (hs : Sv (fun b => b < B) w x.v x.left) (hB : B ≤ w.heap.size) :
    Calls Tryd.prog 9 #[.agg #[.int .i64 x.kind, .int .i64 x.steps, .string (st x.body), x.v]] w (FwPost B x w) := by
  obtain ⟨kind, steps, body, left, v⟩ := x
  simp only at hs ⊢
  obtain ⟨A, c, rfl, hA⟩ := hs.at
  have HS := Lib.hid hs
  have S0 := Lib.hid (FwSt.start w #[.int .i64 kind, .int .i64 steps, .string (st body), .slice A left.length c] #[.int .i64 0, .int .i64 0, .string (st []), .slice none 0 0])
  clear hs
  have hcl : left.length ≤ c := by
    obtain ⟨_, A', c', hv, h3, _⟩ := HS.out
    cases hv
    exact h3
  have HT : Hid (body.length ≤ 600 → body.take 600 = body) := fun h => List.take_of_length_le h
  have HTL : Hid (left.length ≤ 20 → left.take 20 = left) := fun h => List.take_of_length_le h
  by_cases hl : 20 < left.length
  · obtain ⟨b, o, rfl, -⟩ := hA (by omega)
    clear hA
    have hc0 : ¬ c = 0 := by omega
    have h20 : (20 : Int) ≤ (c : Int) := by omega
    have HP := Lib.hid (HS.out.pre (k := 20) (by omega))
    by_cases hb : 600 < body.length
    · go_enter Tryd.func9, Tryd.ntmps9
      go_wp2_with fail
      refine bodyPost_ret (results_cell1 rfl _ _ (w.heap.size + 1) rfl (few_fin _ _ _).1 actTy) rfl ⟨_, rfl, HP.out.later ((few_fin _ _ _).2.mono hB), (few_fin _ _ _).2⟩
    · have HTT := Lib.hid (HT.out (by omega))
      go_enter Tryd.func9, Tryd.ntmps9
      go_wp2_with fail
      refine bodyPost_ret (results_cell1 rfl _ _ (w.heap.size + 1) rfl (few_fin _ _ _).1 actTy) rfl ⟨_, by simp only; rw [HTT.out], HP.out.later ((few_fin _ _ _).2.mono hB), (few_fin _ _ _).2⟩
  · have HTM := Lib.hid (HTL.out (by omega))
    clear hA
    by_cases hb : 600 < body.length
    · go_enter Tryd.func9, Tryd.ntmps9
      go_wp2_with fail
      refine bodyPost_ret (results_cell1 rfl _ _ (w.heap.size + 1) rfl (few_fin _ _ _).1 actTy) rfl ⟨_, rfl, by simp only; rw [HTM.out]; exact HS.out.later ((few_fin _ _ _).2.mono hB), (few_fin _ _ _).2⟩
    · have HTT := Lib.hid (HT.out (by omega))
      go_enter Tryd.func9, Tryd.ntmps9
      go_wp2_with fail
      refine bodyPost_ret (results_cell1 rfl _ _ (w.heap.size + 1) rfl (few_fin _ _ _).1 actTy) rfl ⟨_, by simp only; rw [HTT.out], by simp only; rw [HTM.out]; exact HS.out.later ((few_fin _ _ _).2.mono hB), (few_fin _ _ _).2⟩
end Go.Proofs.YtpmndmgfoiagnaaDoor
