/- lapstoneref03.Take (of a flag, of a count): what they return. -/
import Derived.Test.YtlidbgidbpaenaaDoorRef3T
import Derived.Test.YtlidbgidbpaenaaDoorCodF
namespace Go.Proofs.YtlidbgidbpaenaaDoor
open Go Go.RowKit
set_option linter.unusedVariables false

/-- A field of kind 2; of kind 3. -/
def fldF (b : Bool) : Array Value := #[.int .i64 2, .int .u64 0, .string (st []), .bool b, .int .i64 0]
def takeF (x : Bool × List UInt8 × Nat) : Value := .tuple #[.agg (fldF x.1), .string (st x.2.1), .int .i64 (x.2.2 : Int)]
def fldN (n : Nat) : Array Value := #[.int .i64 3, .int .u64 (n : Int), .string (st []), .bool false, .int .i64 0]
def takeN (x : Nat × List UInt8 × Nat) : Value := .tuple #[.agg (fldN x.1), .string (st x.2.1), .int .i64 (x.2.2 : Int)]

set_option maxHeartbeats 1000000 in
set_option maxRecDepth 100000 in
theorem refTakeF_any (l : List UInt8) (w : World) (hl : l.length ≤ 1099511627776) :
    Calls Tryd.prog 51 #[.int .i64 2, .int .i64 0, .string (st l)] w fun e w' => e = .returned (takeF (rdFlag l 0)) ∧ Below w.heap.size w w' := by
  have hb0 := (Blk.new w 76 #[.int .i64 0, .int .u64 0, .string ⟨#[]⟩, .bool false, .int .i64 0]).alloc (.cells #[.int .i64 2, .int .u64 0, .string ⟨#[]⟩, .bool false, .int .i64 0] 76)
  have hb1 := Blk.new (w.alloc (.cells #[.int .i64 0, .int .u64 0, .string ⟨#[]⟩, .bool false, .int .i64 0] 76)) 76 #[.int .i64 2, .int .u64 0, .string ⟨#[]⟩, .bool false, .int .i64 0]
  rw [show (w.alloc (.cells #[.int .i64 0, .int .u64 0, .string ⟨#[]⟩, .bool false, .int .i64 0] 76)).heap.size = w.heap.size + 1 by simp] at hb1
  have q0 : Below w.heap.size w ((w.alloc (.cells #[.int .i64 0, .int .u64 0, .string ⟨#[]⟩, .bool false, .int .i64 0] 76)).alloc (.cells #[.int .i64 2, .int .u64 0, .string ⟨#[]⟩, .bool false, .int .i64 0] 76)) := ((Below.refl _ _).alloc (Nat.le_refl _) _).alloc (by simp) _
  have n1 : ¬ w.heap.size = w.heap.size + 1 := by omega
  have n2 : ¬ w.heap.size + 1 = w.heap.size := by omega
  have HB := Lib.hid hb0
  rcases l with _ | ⟨b, r⟩
  · have HV : Hid (rdFlag [] 0 = (false, [], 30)) := rfl
    go_enter Tryd.func51, Tryd.ntmps51
    go_wp2_with fail
    exact bodyPost_ret (results_cell3 rfl _ _ w.heap.size rfl ((Blk.new _ _ _).alloc _) fldTy) rfl ⟨by rw [HV.out]; rfl, ((Below.refl _ _).alloc (Nat.le_refl _) _).alloc (by simp) _⟩
  · have hem : (b :: r).isEmpty = false := rfl
    have hi0 : (st (b :: r))[(0 : Nat)]? = some b := rfl
    by_cases h1 : 1 < b.toNat
    · have HV : Hid (rdFlag (b :: r) 0 = (false, b :: r, 33)) := by unfold rdFlag; rw [Hid, if_neg (by simp)]; simp only; rw [if_pos h1]
      have t1 : (1 : Int) < (b.toNat : Int) := by omega
      go_enter Tryd.func51, Tryd.ntmps51
      go_wp2_with fail
      exact bodyPost_ret (results_cell3 rfl _ _ w.heap.size rfl ((Blk.new _ _ _).alloc _) fldTy) rfl ⟨by rw [HV.out]; rfl, ((Below.refl _ _).alloc (Nat.le_refl _) _).alloc (by simp) _⟩
    · have HV : Hid (rdFlag (b :: r) 0 = (b.toNat == 1, r, 0)) := by unfold rdFlag; rw [Hid, if_neg (by simp)]; simp only; rw [if_neg h1]
      have t1 : ¬ (1 : Int) < (b.toNat : Int) := by omega
      obtain ⟨Y, hY⟩ : ∃ Y, (b.toNat == 1) = Y := ⟨_, rfl⟩
      have t2 : ((b.toNat : Int) == 1) = Y := by rw [← hY]; rw [Bool.eq_iff_iff]; simp only [beq_iff_eq]; omega
      rw [hY] at HV
      clear hY
      go_enter Tryd.func51, Tryd.ntmps51
      go_wp2_with fail
      go_region
      all_goals
        go_wp2_with fail
        exact bodyPost_ret (results_cell3 rfl _ _ w.heap.size rfl ((Blk.new _ _ _).alloc _).drew fldTy) rfl ⟨by rw [HV.out]; rfl, (((Below.refl _ _).alloc (Nat.le_refl _) _).alloc (by simp) _).drew⟩

theorem rdCount_num (l : List UInt8) (m : Int) : rdCount l 0 m = if (numV l).2.2 ≠ 0 then (0, l, (numV l).2.2) else if m < ((numV l).1 : Int) then (0, l, 32) else ((numV l).1, (numV l).2.1, 0) := by
  unfold rdCount numV
  rw [if_neg (by simp)]
  cases hg : getVarB l with
  | error er => rw [if_pos (by simpa using (rdErr_le hg).2)]
  | ok xn => obtain ⟨x, n⟩ := xn; rw [if_neg (by simp)]

set_option maxHeartbeats 1000000 in
set_option maxRecDepth 100000 in
theorem refTakeC_any (l : List UInt8) (m : Nat) (w : World) (hl : l.length ≤ 1099511627776) (hm : m ≤ 1000000) :
    Calls Tryd.prog 51 #[.int .i64 3, .int .i64 (m : Int), .string (st l)] w fun e w' => e = .returned (takeN (rdCount l 0 (m : Int))) ∧ Below w.heap.size w w' := by
  have hle := numV_le l
  have hb0 := (Blk.new w 76 #[.int .i64 0, .int .u64 0, .string ⟨#[]⟩, .bool false, .int .i64 0]).alloc (.cells #[.int .i64 3, .int .u64 0, .string ⟨#[]⟩, .bool false, .int .i64 0] 76)
  have hb1 := Blk.new (w.alloc (.cells #[.int .i64 0, .int .u64 0, .string ⟨#[]⟩, .bool false, .int .i64 0] 76)) 76 #[.int .i64 3, .int .u64 0, .string ⟨#[]⟩, .bool false, .int .i64 0]
  rw [show (w.alloc (.cells #[.int .i64 0, .int .u64 0, .string ⟨#[]⟩, .bool false, .int .i64 0] 76)).heap.size = w.heap.size + 1 by simp] at hb1
  have q0 : Below w.heap.size w ((w.alloc (.cells #[.int .i64 0, .int .u64 0, .string ⟨#[]⟩, .bool false, .int .i64 0] 76)).alloc (.cells #[.int .i64 3, .int .u64 0, .string ⟨#[]⟩, .bool false, .int .i64 0] 76)) := ((Below.refl _ _).alloc (Nat.le_refl _) _).alloc (by simp) _
  have hwm : IntKind.u64.wrap (m : Int) = (m : Int) := wrap_u64 (by omega) (by unfold U64; omega)
  go_enter Tryd.func51, Tryd.ntmps51
  go_wp2_with fail
  generalize hG : ((w.alloc (.cells #[.int .i64 0, .int .u64 0, .string ⟨#[]⟩, .bool false, .int .i64 0] 76)).alloc (.cells #[.int .i64 3, .int .u64 0, .string ⟨#[]⟩, .bool false, .int .i64 0] 76)) = W at *
  refine (refNum_any l _ hl).mono ?_
  rintro e w1 ⟨rfl, hbl1⟩
  have hb0' := hb0.later hbl1
  have hb1' := hb1.later hbl1
  have q1 := q0.trans (hbl1.mono q0.size)
  have d0 := hb1'.cell 0
  have c0 := hb0'.cell 0
  have f0 := hb0'.free 0
  have g0 := hb1'.free 0
  have d1 := hb1'.cell 1
  have c1 := hb0'.cell 1
  have f1 := hb0'.free 1
  have g1 := hb1'.free 1
  have d2 := hb1'.cell 2
  have c2 := hb0'.cell 2
  have f2 := hb0'.free 2
  have d3 := hb1'.cell 3
  have c3 := hb0'.cell 3
  have f3 := hb0'.free 3
  have d4 := hb1'.cell 4
  have c4 := hb0'.cell 4
  have f4 := hb0'.free 4
  simp at d0 d1 d2 d3 d4 c0 c1 c2 c3 c4
  have HT := Lib.hid (rdCount_num l (m : Int))
  have HB := Lib.hid hb0'
  clear hb0 hb1 hb0' hb1' hbl1 q0
  clear hG
  obtain ⟨X, hX⟩ : ∃ X, numV l = X := ⟨_, rfl⟩
  rw [hX] at HT hle ⊢
  obtain ⟨x, r, er⟩ := X
  obtain ⟨hx64, hrl, her⟩ := hle
  simp only at hx64 hrl her
  simp only
  clear hX
  by_cases he : er = 0
  · subst he
    by_cases hx : (m : Int) < (x : Int)
    · have HR : Hid (rdCount l 0 (m : Int) = (0, l, 32)) := by have := HT.out; simp only at this; rw [Hid, this, if_neg (by simp), if_pos hx]
      have hx' : m < x := by omega
      go_wp2_with fail
      exact bodyPost_ret (results_cell3 rfl _ _ w.heap.size rfl (HB.out.put5 _ _ _ _ _) fldTy) rfl ⟨by rw [HR.out]; rfl, below_put5 q1 (Nat.le_refl _) _ _ _ _ _⟩
    · have HR : Hid (rdCount l 0 (m : Int) = (x, r, 0)) := by have := HT.out; simp only at this; rw [Hid, this, if_neg (by simp), if_neg hx]
      have hx' : ¬ m < x := by omega
      go_wp2_with fail
      exact bodyPost_ret (results_cell3 rfl _ _ w.heap.size rfl ((HB.out.far (p := ⟨w.heap.size + 1, 1, none⟩) (by simp) _).put5 _ _ _ _ _) fldTy) rfl ⟨by rw [HR.out]; rfl, below_put5 (q1.setCell (by simp) _) (Nat.le_refl _) _ _ _ _ _⟩
  · have HR : Hid (rdCount l 0 (m : Int) = (0, l, er)) := by have := HT.out; simp only at this; rw [Hid, this, if_pos he]
    have t1 : ((er : Int) != 0) = true := by rw [bne_iff_ne]; omega
    clear he
    go_wp2_with fail
    exact bodyPost_ret (results_cell3 rfl _ _ w.heap.size rfl (HB.out.put5 _ _ _ _ _) fldTy) rfl ⟨by rw [HR.out]; rfl, below_put5 q1 (Nat.le_refl _) _ _ _ _ _⟩
end Go.Proofs.YtlidbgidbpaenaaDoor
