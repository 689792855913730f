/- What the proof of PagePuts needs, part 30. -/
import Derived.Test.YtlidbgidbpaenaaDoorPagePutsJ1
import Derived.Test.YtlidbgidbpaenaaDoorPagePutsJ4
import Derived.Test.YtlidbgidbpaenaaDoorPagePutsJ16
import Derived.Test.YtlidbgidbpaenaaDoorPagePutsJ29
import Derived.RegionTactic

namespace Go.Proofs.YtlidbgidbpaenaaDoor
open Go Go.RowKit
set_option linter.unusedVariables false

set_option maxHeartbeats 400000 in
theorem refText_any (s : List UInt8) (w : World) (hl : s.length ≤ 1099511627776) :
    Calls Tryd.prog 42 #[.string (st s)] w fun e w' => e = .returned (.string (st (textB s))) ∧ Below w.heap.size w w' := by
  have hwr : IntKind.u64.wrap (s.length : Int) = (s.length : Int) := wrap_u64 (by omega) (by unfold U64; omega)
  have h64 : s.length < U64 := by unfold U64; omega
  have hv := varB_le10 h64
  go_enter Tryd.func42, Tryd.ntmps42
  go_wp2_with fail
  refine (refVar_any s.length w h64).mono ?_
  rintro e w1 ⟨rfl, hbl⟩
  go_wp2_with fail
  go_ret
  exact ⟨rfl, hbl⟩

theorem fldTy : StructTy Tryd.prog 76 5 := ⟨⟨_, Tryd.underlying76⟩, by kernel_rfl⟩
/-- A field of kind 1. -/
def fldC (s : List UInt8) : Array Value := #[.int .i64 1, .int .u64 0, .string (st s), .bool false, .int .i64 0]
def takeV (x : List UInt8 × List UInt8 × Nat) : Value := .tuple #[.agg (fldC x.1), .string (st x.2.1), .int .i64 (x.2.2 : Int)]

theorem rdText_num (l : List UInt8) : rdText l 0 = if (numV l).2.2 ≠ 0 then ([], l, (numV l).2.2) else if 65536 < (numV l).1 then ([], l, 32) else if (numV l).2.1.length < (numV l).1 then ([], l, 30)
    else ((numV l).2.1.take (numV l).1, (numV l).2.1.drop (numV l).1, 0) := by
  unfold rdText numV
  rw [if_neg (by simp)]
  cases hg : getVarB l with
  | error er => rw [if_pos (by simpa using (rdErr_le hg).2)]; rfl
  | ok xn => obtain ⟨x, n⟩ := xn; rw [if_neg (by simp)]
/-- A field's cells are written: all five. -/
theorem Blk.put5 {w : World} {g : Nat} {t : TypeId} {a b c d e : Value} (h : Blk w g t #[a, b, c, d, e]) (x y z u v : Value) :
    Blk (((((w.setCell ⟨g, 0, none⟩ x).setCell ⟨g, 1, none⟩ y).setCell ⟨g, 2, none⟩ z).setCell ⟨g, 3, none⟩ u).setCell ⟨g, 4, none⟩ v) g t #[x, y, z, u, v] := ((((h.put 0 x).put 1 y).put 2 z).put 3 u).put 4 v
theorem below_put5 {B : Nat} {w0 w : World} {g : Nat} (h : Below B w0 w) (hg : B ≤ g) (x y z u v : Value) :
    Below B w0 (((((w.setCell ⟨g, 0, none⟩ x).setCell ⟨g, 1, none⟩ y).setCell ⟨g, 2, none⟩ z).setCell ⟨g, 3, none⟩ u).setCell ⟨g, 4, none⟩ v) := ((((h.setCell hg _).setCell hg _).setCell hg _).setCell hg _).setCell hg _

set_option maxHeartbeats 1000000 in
set_option maxRecDepth 100000 in
theorem refTake_any (l : List UInt8) (w : World) (hl : l.length ≤ 1099511627776) :
    Calls Tryd.prog 51 #[.int .i64 1, .int .i64 0, .string (st l)] w fun e w' => e = .returned (takeV (rdText l 0)) ∧ Below w.heap.size w w' := by
  have hle := numV_le l
  have hb0 := (Blk.new w 76 #[.int .i64 0, .int .u64 0, .string ⟨#[]⟩, .bool false, .int .i64 0]).alloc (.cells #[.int .i64 1, .int .u64 0, .string ⟨#[]⟩, .bool false, .int .i64 0] 76)
  have hb1 := Blk.new (w.alloc (.cells #[.int .i64 0, .int .u64 0, .string ⟨#[]⟩, .bool false, .int .i64 0] 76)) 76 #[.int .i64 1, .int .u64 0, .string ⟨#[]⟩, .bool false, .int .i64 0]
  rw [show (w.alloc (.cells #[.int .i64 0, .int .u64 0, .string ⟨#[]⟩, .bool false, .int .i64 0] 76)).heap.size = w.heap.size + 1 by simp] at hb1
  have q0 : Below w.heap.size w ((w.alloc (.cells #[.int .i64 0, .int .u64 0, .string ⟨#[]⟩, .bool false, .int .i64 0] 76)).alloc (.cells #[.int .i64 1, .int .u64 0, .string ⟨#[]⟩, .bool false, .int .i64 0] 76)) := ((Below.refl _ _).alloc (Nat.le_refl _) _).alloc (by simp) _
  go_enter Tryd.func51, Tryd.ntmps51
  go_wp2_with fail
  generalize hG : ((w.alloc (.cells #[.int .i64 0, .int .u64 0, .string ⟨#[]⟩, .bool false, .int .i64 0] 76)).alloc (.cells #[.int .i64 1, .int .u64 0, .string ⟨#[]⟩, .bool false, .int .i64 0] 76)) = W at *
  refine (refNum_any l _ hl).mono ?_
  rintro e w1 ⟨rfl, hbl1⟩
  have hb0' := hb0.later hbl1
  have hb1' := hb1.later hbl1
  have q1 := q0.trans (hbl1.mono q0.size)
  have d0 := hb1'.cell 0
  have c0 := hb0'.cell 0
  have f0 := hb0'.free 0
  have g0 := hb1'.free 0
  have d1 := hb1'.cell 1
  have c1 := hb0'.cell 1
  have f1 := hb0'.free 1
  have g1 := hb1'.free 1
  have d2 := hb1'.cell 2
  have c2 := hb0'.cell 2
  have f2 := hb0'.free 2
  have g2 := hb1'.free 2
  have d3 := hb1'.cell 3
  have c3 := hb0'.cell 3
  have f3 := hb0'.free 3
  have g3 := hb1'.free 3
  have d4 := hb1'.cell 4
  have c4 := hb0'.cell 4
  have f4 := hb0'.free 4
  have g4 := hb1'.free 4
  simp at d0 d1 d2 d3 d4 c0 c1 c2 c3 c4
  have HT := Lib.hid (rdText_num l)
  have HB := Lib.hid hb0'
  clear hb0 hb1 hb0' hb1' hbl1 q0
  clear hG
  obtain ⟨X, hX⟩ : ∃ X, numV l = X := ⟨_, rfl⟩
  rw [hX] at HT hle ⊢
  obtain ⟨x, r, er⟩ := X
  obtain ⟨hx64, hrl, her⟩ := hle
  simp only at hx64 hrl her
  simp only
  clear hX
  by_cases he : er = 0
  · subst he
    by_cases hx : 65536 < x
    · have HR : Hid (rdText l 0 = ([], l, 32)) := by have := HT.out; simp only at this; rw [Hid, this, if_neg (by simp), if_pos hx]
      go_wp2_with fail
      exact bodyPost_ret (results_cell3 rfl _ _ w.heap.size rfl (HB.out.put5 _ _ _ _ _) fldTy) rfl ⟨by rw [HR.out]; rfl, below_put5 q1 (Nat.le_refl _) _ _ _ _ _⟩
    · by_cases hr : r.length < x
      · have HR : Hid (rdText l 0 = ([], l, 30)) := by have := HT.out; simp only at this; rw [Hid, this, if_neg (by simp), if_neg hx, if_pos hr]
        go_wp2_with fail
        exact bodyPost_ret (results_cell3 rfl _ _ w.heap.size rfl (HB.out.put5 _ _ _ _ _) fldTy) rfl ⟨by rw [HR.out]; rfl, below_put5 q1 (Nat.le_refl _) _ _ _ _ _⟩
      · have HR : Hid (rdText l 0 = (r.take x, r.drop x, 0)) := by have := HT.out; simp only at this; rw [Hid, this, if_neg (by simp), if_neg hx, if_neg hr]
        have hdt : (r.drop x).take (r.length - x) = r.drop x := List.take_of_length_le (by simp)
        go_wp2_with fail
        go_region
        all_goals
          go_wp2_with fail
          exact bodyPost_ret (results_cell3 rfl _ _ w.heap.size rfl (Blk.drew ((HB.out.far (p := ⟨w.heap.size + 1, 2, none⟩) (by simp) _).put5 _ _ _ _ _)) fldTy) rfl ⟨by rw [HR.out]; rfl, (below_put5 (q1.setCell (by simp) _) (Nat.le_refl _) _ _ _ _ _).drew⟩
  · have HR : Hid (rdText l 0 = ([], l, er)) := by have := HT.out; simp only at this; rw [Hid, this, if_pos he]
    have t1 : ((er : Int) != 0) = true := by rw [bne_iff_ne]; omega
    clear he
    go_wp2_with fail
    exact bodyPost_ret (results_cell3 rfl _ _ w.heap.size rfl (HB.out.put5 _ _ _ _ _) fldTy) rfl ⟨by rw [HR.out]; rfl, below_put5 q1 (Nat.le_refl _) _ _ _ _ _⟩
end Go.Proofs.YtlidbgidbpaenaaDoor
