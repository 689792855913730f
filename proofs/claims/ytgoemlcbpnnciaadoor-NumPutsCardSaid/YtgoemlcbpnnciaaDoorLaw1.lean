/- The statements of layer 1: the walks. -/
import Derived.Test.YtgoemlcbpnnciaaDoorLaw1A
import Derived.Deep.RegionWith
namespace Go.Proofs.YtgoemlcbpnnciaaDoor
open Go Go.RowKit
set_option linter.unusedVariables false

set_option maxHeartbeats 2000000 in
set_option maxRecDepth 100000 in
theorem law_NumPuts (l : List UInt8) (x : Nat) (n : Int) (w : World) (hb : BitsOk w) (hx : x < U64) (hl : l.length ≤ 9223372036854775807) :
    Calls Tryd.prog 3 #[.string (st l), .int .u64 x, .int .i64 n] w fun e w' => e = .returned (.bool true) ∧ Below w.heap.size w w' := by
  have HB := Lib.hid hb
  clear hb
  by_cases hlen : 1000 < l.length
  · have t1 : (1000 : Int) < (l.length : Int) := by omega
    go_enter Tryd.func3, Tryd.ntmps3
    go_wp2_with fail
    refine (awake_any w HB.out).mono ?_
    rintro e w1 ⟨rfl, hbl1⟩
    go_wp2_with fail
    go_ret
    exact ⟨rfl, hbl1⟩
  · have t1 : ¬ (1000 : Int) < (l.length : Int) := by omega
    go_enter Tryd.func3, Tryd.ntmps3
    have hm : l.length ≤ maxLen := by simp only [maxLen]; omega
    go_wp2_with (refine wpList_bytes_of_st _ rfl (.tmp 16) rfl tS tB tU hm rfl ?_; intro A1 c1 w1 hbs1 hbl1 hsz1)
    clear hm
    by_cases hn : n < 1 ∨ 8 < n
    · refine (put_range _ x n w1 hn).mono ?_
      rintro e w2 ⟨rfl, hbl2⟩
      go_wp2_with fail
      refine (refPut_range x n w2 hn).mono ?_
      rintro e w3 ⟨rfl, rfl⟩
      have hbl : Below w.heap.size w w2 := hbl1.trans (hbl2.mono (by omega))
      go_wp2_with fail
      refine (awake_any w2 ((HB.out.later hbl1).below hbl2 (by omega))).mono ?_
      rintro e w3 ⟨rfl, hbl3⟩
      go_wp2_with fail
      go_ret
      exact ⟨rfl, hbl.trans (hbl3.mono hbl.size)⟩
    · obtain ⟨k, rfl⟩ : ∃ k : Nat, n = (k : Int) := ⟨n.toNat, by omega⟩
      have e256 : (2 : Nat) ^ (8 * k) = 256 ^ k := by rw [Nat.pow_mul]
      have hpos : 0 < 256 ^ k := Nat.pow_pos (by omega)
      by_cases hx2 : x < 256 ^ k
      · refine (put_ok _ _ l x k w1 (by omega) (by omega) hx (fun _ => by rw [e256]; exact Nat.div_eq_of_lt hx2) (HB.out.later hbl1) (by omega) hbs1).mono ?_
        rintro e w2 ⟨A2, k2, c2, rfl, hown2, hbl2⟩
        go_wp2_with fail
        refine (refPut_any x k w2 hx (by omega) (by omega)).mono ?_
        rintro e w3 ⟨rfl, hbl3⟩
        rw [show decide (x < 256 ^ k) = true from by simpa using hx2]
        have hbl : Below w.heap.size w w2 := hbl1.trans (hbl2.mono (by omega))
        have hbl' : Below w.heap.size w w3 := hbl.trans (hbl3.mono hbl.size)
        clear hpos e256 hx2
        go_wp2_with fail
        refine (awake_any w3 (HB.out.later hbl')).mono ?_
        rintro e w4 ⟨rfl, hbl4⟩
        have o4 := (hown2.later hbl3).later hbl4
        have cv := run_string_of_bs (P := Tryd.prog) o4.bs tB tU tS
        have hle : l.length + (beB x k).length ≤ 9223372036854775807 := by rw [beB_length]; omega
        go_wp2_with fail
        go_ret
        exact ⟨rfl, hbl'.trans (hbl4.mono hbl'.size)⟩
      · have hk8 : k < 8 := by
          rcases Nat.lt_or_ge k 8 with h | h
          · exact h
          · exfalso
            have h2 : (256 : Nat) ^ 8 ≤ 256 ^ k := Nat.pow_le_pow_right (by omega) h
            unfold U64 at hx
            omega
        refine (put_over _ x k w1 (by omega) hk8 hx (by rw [e256, Nat.div_eq_zero_iff]; omega) (HB.out.later hbl1)).mono ?_
        rintro e w2 ⟨rfl, hbl2⟩
        go_wp2_with fail
        refine (refPut_any x k w2 hx (by omega) (by omega)).mono ?_
        rintro e w3 ⟨rfl, hbl3⟩
        rw [show decide (x < 256 ^ k) = false from by simpa using hx2]
        have hbl : Below w.heap.size w w2 := hbl1.trans (hbl2.mono (by omega))
        have hbl' : Below w.heap.size w w3 := hbl.trans (hbl3.mono hbl.size)
        clear hpos e256 hx2
        go_wp2_with fail
        refine (awake_any w3 (HB.out.later hbl')).mono ?_
        rintro e w4 ⟨rfl, hbl4⟩
        go_wp2_with fail
        go_ret
        exact ⟨rfl, hbl'.trans (hbl4.mono hbl'.size)⟩

end Go.Proofs.YtgoemlcbpnnciaaDoor
