/- The statements of layer 1: NumCmps. -/
import Derived.Test.YtgoemlcbpnnciaaDoorLaw1E
namespace Go.Proofs.YtgoemlcbpnnciaaDoor
open Go Go.RowKit
set_option linter.unusedVariables false

set_option maxHeartbeats 2000000 in
set_option maxRecDepth 100000 in
theorem law_NumCmps (a b c : List UInt8) (w : World) (hb : BitsOk w) (ha : a.length ≤ 9223372036854775807) (hb' : b.length ≤ 9223372036854775807) (hc : c.length ≤ 9223372036854775807) :
    Calls Tryd.prog 8 #[.string (st a), .string (st b), .string (st c)] w fun e w' => e = .returned (.bool true) ∧ Below w.heap.size w w' := by
  have HB := Lib.hid hb
  clear hb
  by_cases hlen : 1000 < a.length ∨ 1000 < b.length ∨ 1000 < c.length
  · have hcase : (1000 : Int) < (a.length : Int) ∨ (¬ (1000 : Int) < (a.length : Int) ∧ (1000 : Int) < (b.length : Int)) ∨ (¬ (1000 : Int) < (a.length : Int) ∧ ¬ (1000 : Int) < (b.length : Int) ∧ (1000 : Int) < (c.length : Int)) := by omega
    clear hlen
    rcases hcase with t1 | ⟨t1, t2⟩ | ⟨t1, t2, t3⟩
    all_goals
      go_enter Tryd.func8, Tryd.ntmps8
      go_wp2_with fail
      refine (awake_any w HB.out).mono ?_
      rintro e w1 ⟨rfl, hbl1⟩
      go_wp2_with fail
      go_ret
      exact ⟨rfl, hbl1⟩
  · have t1 : ¬ (1000 : Int) < (a.length : Int) := by omega
    have t2 : ¬ (1000 : Int) < (b.length : Int) := by omega
    have t3 : ¬ (1000 : Int) < (c.length : Int) := by omega
    have ma : a.length ≤ maxLen := by simp only [maxLen]; omega
    have mb : b.length ≤ maxLen := by simp only [maxLen]; omega
    have mca : (c ++ a).length ≤ maxLen := by simp only [maxLen, List.length_append]; omega
    have mcb : (c ++ b).length ≤ maxLen := by simp only [maxLen, List.length_append]; omega
    have MCA := Lib.hid mca
    have MCB := Lib.hid mcb
    have hr : -1 ≤ cmpB a b ∧ cmpB a b ≤ 1 := by rcases cmpB_rng a b with h | h | h <;> omega
    obtain ⟨hr1, hr2⟩ := hr
    clear hlen mca mcb
    go_enter Tryd.func8, Tryd.ntmps8
    go_wp2_with (first | (refine wpList_bytes_of_st _ rfl (.tmp 22) rfl tS tB tU ma rfl ?_; intro A1 c1 w1 hbs1 hbl1 hsz1) | (refine wpList_bytes_of_st _ rfl (.tmp 24) rfl tS tB tU mb rfl ?_; intro A2 c2 w2 hbs2 hbl2 hsz2))
    refine (cmp_any _ _ _ _ a b w2 (by omega) (by omega) (hbs1.later hbl2) hbs2).mono ?_
    rintro e w3 ⟨rfl, hdr3⟩
    have hbl3 : Below w.heap.size w w3 := (below_chain hbl1 hbl2).trans (hdr3.below _)
    clear hbs1 hbs2 hbl1 hbl2 hsz1 hsz2 hdr3
    go_wp2_with fail
    refine (awake_any w3 (HB.out.later hbl3)).mono ?_
    rintro e w4 ⟨rfl, hbl4⟩
    go_wp2_with fail
    refine (refCmp_any a b w4).mono ?_
    rintro e w5 ⟨rfl, rfl⟩
    have hbl5 := below_chain hbl3 hbl4
    go_wp2_with (first | (refine wpList_bytes_of_st _ rfl (.tmp 36) rfl tS tB tU mb rfl ?_; intro A6 c6 w6 hbs6 hbl6 hsz6) | (refine wpList_bytes_of_st _ rfl (.tmp 38) rfl tS tB tU ma rfl ?_; intro A7 c7 w7 hbs7 hbl7 hsz7))
    refine (cmp_any _ _ _ _ b a w7 (by omega) (by omega) (hbs6.later hbl7) hbs7).mono ?_
    rintro e w8 ⟨rfl, hdr8⟩
    rw [cmpB_anti a b]
    have hbl8 : Below w.heap.size w w8 := (below_chain (below_chain hbl5 hbl6) hbl7).trans (hdr8.below _)
    clear hbs6 hbs7 hbl6 hbl7 hsz6 hsz7 hdr8 hbl4 hbl3 hbl5
    go_wp2_with (first | (refine wpList_bytes_of_st _ rfl (.tmp 48) rfl tS tB tU MCA.out rfl ?_; intro A9 c9 w9 hbs9 hbl9 hsz9) | (refine wpList_bytes_of_st _ rfl (.tmp 52) rfl tS tB tU MCB.out rfl ?_; intro A10 c10 w10 hbs10 hbl10 hsz10))
    rw [List.length_append] at hbs9 hbs10
    refine (cmp_any _ _ _ _ (c ++ a) (c ++ b) w10 (by simp; omega) (by simp; omega) (hbs9.later hbl10) hbs10).mono ?_
    rintro e w11 ⟨rfl, hdr11⟩
    rw [cmpB_pre]
    go_wp2_with fail
    go_ret
    exact ⟨rfl, (below_chain (below_chain hbl8 hbl9) hbl10).trans (hdr11.below _)⟩

end Go.Proofs.YtgoemlcbpnnciaaDoor
