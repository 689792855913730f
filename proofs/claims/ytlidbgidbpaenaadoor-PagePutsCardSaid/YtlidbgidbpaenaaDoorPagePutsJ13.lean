/- What the proof of PagePuts needs, part 13. -/
import Derived.Test.YtlidbgidbpaenaaDoorPagePutsJ12

namespace Go.Proofs.YtlidbgidbpaenaaDoor
open Go Go.RowKit
set_option linter.unusedVariables false

set_option maxHeartbeats 1000000 in
set_option maxRecDepth 100000 in
theorem psearch_any (f : FuncId) (cb : Array Value) (n K : Nat) (w : World) (hn : n ≤ 1000000) (hK : K ≤ n) (eg : ∀ args w, (callFunc f args).run Tryd.prog w = .ok (.enter f args) w)
    (hf : ∀ i m, i < n → Calls Tryd.prog f (#[.int .i64 (i : Int)] ++ cb) (w.drewN m) fun e w' => e = .returned (.bool (decide (K ≤ i))) ∧ ∃ m', w' = w.drewN m') :
    Calls Tryd.prog 52 #[.int .i64 (n : Int), .func (Fn.func f) #[] cb] w fun e w' => e = .returned (.int .i64 (K : Int)) ∧ ∃ m, w' = w.drewN m := by
  have HF := Lib.hid hf
  clear hf
  go_enter Tryd.func52, Tryd.ntmps52
  go_wp2_with fail
  go_loopw [5, 6] (fun lv hv wr => ∃ lo hi m : Nat, lv = .int .i64 (lo : Int) ∧ hv = .int .i64 (hi : Int) ∧ lo ≤ K ∧ K ≤ hi ∧ hi ≤ n ∧ wr = w.drewN m) (fun lv hv _ => (intOf hv).toNat - (intOf lv).toNat)
  case atStart => exact ⟨0, n, 0, rfl, rfl, by omega, hK, by omega, rfl⟩
  case round =>
    obtain ⟨lo, hi, m, rfl, rfl, h1, h2, h3, rfl⟩ := hrel
    by_cases hlt : lo < hi
    · have hc := HF.out ((lo + hi) / 2) m (by omega)
      have hd : (((lo + hi) / 2 : Nat) : Int) = ((lo : Int) + (hi : Int)) / 2 := by omega
      rw [hd] at hc
      have HC := Lib.hid hc
      have hw1 : IntKind.i64.wrap ((lo : Int) + (hi : Int)) = (lo : Int) + (hi : Int) := IntWalk.i64_in _ (by omega)
      have hw2 : IntKind.u64.wrap ((lo : Int) + (hi : Int)) = (lo : Int) + (hi : Int) := wrap_u64 (by omega) (by unfold U64; omega)
      have hw3 : IntKind.i64.wrap (((lo : Int) + (hi : Int)) / 2) = ((lo : Int) + (hi : Int)) / 2 := IntWalk.i64_in _ (by omega)
      clear hc hd
      go_wp2_with fail
      refine HC.out.mono ?_
      rintro e w1 ⟨rfl, m', rfl⟩
      by_cases hKh : K ≤ (lo + hi) / 2
      · rw [decide_eq_true hKh]
        go_wp2_with fail
        go_roundw
        case rel => exact ⟨lo, (lo + hi) / 2, _, rfl, by go_num, by omega, hKh, by omega, rfl⟩
        case measure => simp [intOf]; omega
      · rw [decide_eq_false hKh]
        have hw4 : IntKind.i64.wrap (((lo : Int) + (hi : Int)) / 2 + 1) = ((lo : Int) + (hi : Int)) / 2 + 1 := IntWalk.i64_in _ (by omega)
        go_wp2_with fail
        go_roundw
        case rel => exact ⟨(lo + hi) / 2 + 1, hi, _, by go_num, rfl, by omega, by omega, by omega, rfl⟩
        case measure => simp [intOf]; omega
    · obtain rfl : lo = hi := by omega
      obtain rfl : lo = K := by omega
      go_wp2_with fail
      go_ret
      exact ⟨rfl, m, rfl⟩
end Go.Proofs.YtlidbgidbpaenaaDoor
