/- What the proof of PagePuts needs, part 29. -/
import Derived.Test.YtlidbgidbpaenaaDoorPagePutsJ16
import Derived.Test.YtlidbgidbpaenaaDoorPagePutsJ28
import Derived.BigQuiet
import Derived.Deep.QuietTactic

namespace Go.Proofs.YtlidbgidbpaenaaDoor
open Go Go.RowKit
set_option linter.unusedVariables false

def numV (l : List UInt8) : Nat × List UInt8 × Nat := match getVarB l with
  | .error er => (0, l, rdErr er)
  | .ok (x, n) => (x, l.drop n, 0)
theorem numV_le (l : List UInt8) : (numV l).1 < U64 ∧ (numV l).2.1.length ≤ l.length ∧ (numV l).2.2 ≤ 1000 := by
  unfold numV
  cases h : getVarB l with
  | error er => exact ⟨by show (0 : Nat) < U64; unfold U64; decide, Nat.le_refl _, (rdErr_le h).1⟩
  | ok xn => obtain ⟨x, n⟩ := xn; exact ⟨(getVarB_bound h).1, by simp, by simp⟩
set_option maxHeartbeats 400000 in
theorem refNum_any (l : List UInt8) (w : World) (hl : l.length ≤ 1099511627776) :
    Calls Tryd.prog 70 #[.string (st l)] w fun e w' => e = .returned (.tuple #[.int .u64 ((numV l).1 : Int), .string (st (numV l).2.1), .int .i64 ((numV l).2.2 : Int)]) ∧ Below w.heap.size w w' := by
  cases hg : getVarB l with
  | error er =>
    have HG := Lib.hid hg
    have HN : Hid (numV l = (0, l, rdErr er)) := by unfold numV; rw [hg]; rfl
    have he : er = 10 ∨ er = 12 := getV_errs l 0 0 er hg
    clear hg
    rcases he with rfl | rfl
    all_goals
      go_enter Tryd.func70, Tryd.ntmps70
      go_wp2_with fail
      refine (refGetVar_any l w hl).mono ?_
      rintro e w1 ⟨rfl, rfl⟩
      rw [HG.out]
      simp only [refVal]
      go_wp2_with fail
      go_ret3
      rw [HN.out]
      exact ⟨rfl, Below.refl _ _⟩
  | ok xn =>
    obtain ⟨x, n⟩ := xn
    have HG := Lib.hid hg
    have HN : Hid (numV l = (x, l.drop n, 0)) := by unfold numV; rw [hg]; rfl
    have hdt : (l.drop n).take (l.length - n) = l.drop n := List.take_of_length_le (by simp)
    obtain ⟨_, hn1, hn2⟩ := getVarB_bound hg
    clear hg
    go_enter Tryd.func70, Tryd.ntmps70
    go_wp2_with fail
    refine (refGetVar_any l w hl).mono ?_
    rintro e w1 ⟨rfl, rfl⟩
    rw [HG.out]
    simp only [refVal]
    go_wp2_with fail
    go_quiet (fail)
    go_wp2_with fail
    go_ret3
    rw [HN.out]
    exact ⟨rfl, below_drewN (Below.refl _ _) _⟩
end Go.Proofs.YtlidbgidbpaenaaDoor
