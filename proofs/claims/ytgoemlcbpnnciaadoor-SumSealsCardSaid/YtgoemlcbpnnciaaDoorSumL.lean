/- The statements of layer 2: SumOf, SumMore, SumOpens, SumSeals. -/
import Derived.Test.YtgoemlcbpnnciaaDoorSumC
import Derived.Test.YtgoemlcbpnnciaaDoorGrow
namespace Go.Proofs.YtgoemlcbpnnciaaDoor
open Go Go.RowKit
set_option linter.unusedVariables false

set_option maxHeartbeats 2000000 in
set_option maxRecDepth 100000 in
theorem law_SumMore (v : Nat) (l : List UInt8) (w : World) (hb : BitsOk w) (hv : v < 4294967296) (hl : l.length ≤ 9223372036854775807) :
    Calls Tryd.prog 12 #[.int .u32 v, .string (st l)] w fun e w' => e = .returned (.bool true) ∧ Below w.heap.size w w' := by
  have HB := Lib.hid hb
  clear hb
  obtain ⟨r, hr⟩ : ∃ r : Rg, v = r.toNat := ⟨BitVec.ofNat 32 v, by rw [BitVec.toNat_ofNat]; omega⟩
  subst hr
  by_cases hlen : 500 < l.length
  · have t1 : (500 : Int) < (l.length : Int) := by omega
    go_enter Tryd.func12, Tryd.ntmps12
    go_wp2_with fail
    refine (awake2_any w HB.out).mono ?_
    rintro e w1 ⟨rfl, hbl1⟩
    go_wp2_with fail
    go_ret
    exact ⟨rfl, hbl1⟩
  · have t1 : ¬ (500 : Int) < (l.length : Int) := by omega
    have hm : l.length ≤ maxLen := by simp only [maxLen]; omega
    have hl' : l.length ≤ 1099511627776 := by omega
    go_enter Tryd.func12, Tryd.ntmps12
    go_wp2_with fail
    refine (awake2_any w HB.out).mono ?_
    rintro e w1 ⟨rfl, hbl1⟩
    go_wp2_with (refine wpList_bytes_of_st _ rfl (.tmp 12) rfl tS tB tU hm rfl ?_; intro A2 c2 w2 hbs2 hbl2 hsz2)
    refine (more_any _ _ r l w2 hl' hbs2).mono ?_
    rintro e w3 ⟨rfl, hbl3⟩
    have q3 := below_chain (below_chain hbl1 hbl2) hbl3
    clear hbs2 hbl1 hbl2 hbl3 hsz2
    go_wp2_with fail
    refine (refMore_any r l w3 hl').mono ?_
    rintro e w4 ⟨rfl, rfl⟩
    go_wp2_with fail
    go_ret
    exact ⟨rfl, q3⟩

set_option maxHeartbeats 2000000 in
set_option maxRecDepth 100000 in
theorem law_SumOf (l m : List UInt8) (w : World) (hb : BitsOk w) (hl : l.length ≤ 9223372036854775807) (hm : m.length ≤ 9223372036854775807) :
    Calls Tryd.prog 11 #[.string (st l), .string (st m)] w fun e w' => e = .returned (.bool true) ∧ Below w.heap.size w w' := by
  have HB := Lib.hid hb
  clear hb
  by_cases hlen : 500 < l.length ∨ 500 < m.length
  · have hcase : (500 : Int) < (l.length : Int) ∨ (¬ (500 : Int) < (l.length : Int) ∧ (500 : Int) < (m.length : Int)) := by omega
    clear hlen
    rcases hcase with t1 | ⟨t1, t2⟩
    all_goals
      go_enter Tryd.func11, Tryd.ntmps11
      go_wp2_with fail
      refine (awake2_any w HB.out).mono ?_
      rintro e w1 ⟨rfl, hbl1⟩
      go_wp2_with fail
      go_ret
      exact ⟨rfl, hbl1⟩
  · have t1 : ¬ (500 : Int) < (l.length : Int) := by omega
    have t2 : ¬ (500 : Int) < (m.length : Int) := by omega
    have ml : l.length ≤ maxLen := by simp only [maxLen]; omega
    have mm : m.length ≤ maxLen := by simp only [maxLen]; omega
    have mlm : Hid ((l ++ m).length ≤ maxLen) := by simp only [Hid, maxLen, List.length_append]; omega
    have hl' : l.length ≤ 1099511627776 := by omega
    have hm' : m.length ≤ 1099511627776 := by omega
    have hlm : Hid ((l ++ m).length ≤ 1099511627776) := by rw [Hid, List.length_append]; omega
    have hsm := sumMore_append 0#32 l m
    have HS : Hid (sumOf (l ++ m) = sumMore (sumOf l) m) := hsm
    clear hsm
    go_enter Tryd.func11, Tryd.ntmps11
    go_wp2_with fail
    refine (awake2_any w HB.out).mono ?_
    rintro e w1 ⟨rfl, q1⟩
    go_wp2_with (refine wpList_bytes_of_st _ rfl (.tmp 16) rfl tS tB tU ml rfl ?_; intro A2 c2 w2 hbs2 hbl2 hsz2)
    refine (of_any _ _ l w2 hl' hbs2).mono ?_
    rintro e w3 ⟨rfl, hbl3⟩
    have q3 := below_chain (below_chain q1 hbl2) hbl3
    clear hbs2 q1 hbl2 hbl3 hsz2
    go_wp2_with fail
    refine (refOf_any l w3 hl').mono ?_
    rintro e w4 ⟨rfl, rfl⟩
    go_wp2_with (refine wpList_bytes_of_st _ rfl (.tmp 24) rfl tS tB tU ml rfl ?_; intro A5 c5 w5 hbs5 hbl5 hsz5)
    refine (of_any _ _ l w5 hl' hbs5).mono ?_
    rintro e w6 ⟨rfl, hbl6⟩
    have q6 := below_chain (below_chain q3 hbl5) hbl6
    clear hbs5 q3 hbl5 hbl6 hsz5
    go_wp2_with (refine wpList_bytes_of_st _ rfl (.tmp 27) rfl tS tB tU mm rfl ?_; intro A7 c7 w7 hbs7 hbl7 hsz7)
    refine (more_any _ _ (sumOf l) m w7 hm' hbs7).mono ?_
    rintro e w8 ⟨rfl, hbl8⟩
    have q8 := below_chain (below_chain q6 hbl7) hbl8
    clear hbs7 q6 hbl7 hbl8 hsz7
    go_wp2_with (refine wpList_bytes_of_st _ rfl (.tmp 32) rfl tS tB tU mlm.out rfl ?_; intro A9 c9 w9 hbs9 hbl9 hsz9)
    rw [List.length_append] at hbs9
    refine (of_any _ _ (l ++ m) w9 hlm.out hbs9).mono ?_
    rintro e w10 ⟨rfl, hbl10⟩
    have q10 := below_chain (below_chain q8 hbl9) hbl10
    rw [HS.out]
    clear hbs9 q8 hbl9 hbl10 hsz9
    go_wp2_with fail
    go_ret
    exact ⟨rfl, q10⟩

set_option maxHeartbeats 2000000 in
set_option maxRecDepth 100000 in
theorem law_SumOpens (l : List UInt8) (w : World) (hb : BitsOk w) (hl : l.length ≤ 9223372036854775807) :
    Calls Tryd.prog 13 #[.string (st l)] w fun e w' => e = .returned (.bool true) ∧ Below w.heap.size w w' := by
  have HB := Lib.hid hb
  clear hb
  by_cases hlen : 500 < l.length
  · have t1 : (500 : Int) < (l.length : Int) := by omega
    go_enter Tryd.func13, Tryd.ntmps13
    go_wp2_with fail
    refine (awake2_any w HB.out).mono ?_
    rintro e w1 ⟨rfl, hbl1⟩
    go_wp2_with fail
    go_ret
    exact ⟨rfl, hbl1⟩
  · have t1 : ¬ (500 : Int) < (l.length : Int) := by omega
    have ml : l.length ≤ maxLen := by simp only [maxLen]; omega
    have hl' : l.length ≤ 1099511627776 := by omega
    go_enter Tryd.func13, Tryd.ntmps13
    go_wp2_with (refine wpList_bytes_of_st _ rfl (.tmp 12) rfl tS tB tU ml rfl ?_; intro A2 c2 w2 hbs2 hbl2 hsz2)
    refine (open_any _ _ l w2 hl' hbs2).mono ?_
    rintro e w3 ⟨hok, herr, hbl3⟩
    have q3 := below_chain hbl2 hbl3
    clear hbs2 hbl2 hbl3 hsz2
    cases ho : openB l with
    | ok b =>
      obtain ⟨A3, k3, c3, rfl, hown⟩ := hok b ho
      have HO := Lib.hid ho
      clear hok herr ho
      go_wp2_with fail
      refine (refOpen_any l w3 hl').mono ?_
      rintro e w4 ⟨rfl, hbl4⟩
      rw [HO.out, refOpenV]
      have q4 := below_chain q3 hbl4
      have hown4 := hown.later hbl4
      clear hown hbl4 q3
      go_wp2_with fail
      refine (awake2_any w4 (HB.out.later q4)).mono ?_
      rintro e w5 ⟨rfl, hbl5⟩
      have cv := run_string_of_bs (P := Tryd.prog) (hown4.later hbl5).bs tB tU tS
      have q5 := below_chain q4 hbl5
      clear hown4 hbl5 q4
      go_wp2_with fail
      go_ret
      exact ⟨rfl, q5⟩
    | error er =>
      obtain rfl := herr er ho
      have HO := Lib.hid ho
      clear hok herr ho
      go_wp2_with fail
      refine (refOpen_any l w3 hl').mono ?_
      rintro e w4 ⟨rfl, hbl4⟩
      rw [HO.out, refOpenV]
      have q4 := below_chain q3 hbl4
      clear hbl4 q3
      go_wp2_with fail
      refine (awake2_any w4 (HB.out.later q4)).mono ?_
      rintro e w5 ⟨rfl, hbl5⟩
      have cv := run_string_of_bs (P := Tryd.prog) (Bs.nilv (fun _ => False) w5) tB tU tS
      have q5 := below_chain q4 hbl5
      clear hbl5 q4
      go_wp2_with fail
      go_ret
      exact ⟨rfl, q5⟩

set_option maxHeartbeats 2000000 in
set_option maxRecDepth 100000 in
theorem law_SumSeals (l : List UInt8) (w : World) (hb : BitsOk w) (hl : l.length ≤ 9223372036854775807) :
    Calls Tryd.prog 14 #[.string (st l)] w fun e w' => e = .returned (.bool true) ∧ Below w.heap.size w w' := by
  have HB := Lib.hid hb
  clear hb
  by_cases hlen : 500 < l.length
  · have t1 : (500 : Int) < (l.length : Int) := by omega
    go_enter Tryd.func14, Tryd.ntmps14
    go_wp2_with fail
    refine (awake2_any w HB.out).mono ?_
    rintro e w1 ⟨rfl, hbl1⟩
    go_wp2_with fail
    go_ret
    exact ⟨rfl, hbl1⟩
  · have t1 : ¬ (500 : Int) < (l.length : Int) := by omega
    have ml : l.length ≤ maxLen := by simp only [maxLen]; omega
    have hl' : l.length ≤ 1099511627776 := by omega
    go_enter Tryd.func14, Tryd.ntmps14
    go_wp2_with (refine wpList_bytes_of_st _ rfl (.tmp 10) rfl tS tB tU ml rfl ?_; intro A2 c2 w2 hbs2 hbl2 hsz2)
    refine (seal_any _ _ l w2 (HB.out.later hbl2) hl' hbs2).mono ?_
    rintro e w3 ⟨A3, k3, c3, rfl, hown3, hbl3⟩
    have q3 := below_chain hbl2 hbl3
    clear hbs2 hbl2 hbl3 hsz2
    go_wp2_with fail
    refine (open_any _ _ _ w3 (by simp [beB_length]; omega) hown3.bs).mono ?_
    rintro e w4 ⟨hok, _, hbl4⟩
    obtain ⟨A4, k4, c4, rfl, hown4⟩ := hok _ (openB_seal l)
    have q4 := below_chain q3 hbl4
    have hown3' := hown3.later hbl4
    have HB4 := Lib.hid (HB.out.later q4)
    clear hok hown3 hbl4 q3
    have cv3 : ∀ W, Below w4.heap.size w4 W → (convert 24 9 (.slice A3 k3 c3)).run Tryd.prog W = .ok (.string (st (l ++ beB (sumOf l).toNat 4))) W := fun W hW => run_string_of_bs (hown3'.later hW).bs tB tU tS
    have cv4 : ∀ W, Below w4.heap.size w4 W → (convert 24 9 (.slice A4 k4 c4)).run Tryd.prog W = .ok (.string (st l)) W := fun W hW => run_string_of_bs (hown4.later hW).bs tB tU tS
    clear hown3' hown4
    go_wp2_with fail
    refine wp_region_grow_lit (by kernel_rfl) (by kernel_rfl) ?_
    apply Exists.intro
    apply And.intro
    · repeat (first
        | (apply wpGrow_skip rfl
           intro K hK
           go_simp
           refine hK _ ?_
           clear hK K)
        | (apply wpGrow_is rfl
           · intro wg hwg _
             unfold grows
             go_simp
             first
               | exact grows_value _ _
               | (apply grows_call; go_at_call 27; exact awake2_any _ (HB4.out.later hwg))
               | (apply grows_call; go_at_call 35; exact refSeal_any _ _ hl')
           intro K hK
           go_simp
           refine hK _ ?_
           clear hK K))
      refine wpGrow_end (fun wg hwg _ => ?_)
      go_wp2
      go_ret
      exact ⟨rfl, q4.trans (hwg.mono q4.size)⟩
    · apply And.intro
      · repeat (first | exact trivial | (refine ⟨Stays.is _, ?_⟩))
      · rfl
end Go.Proofs.YtgoemlcbpnnciaaDoor
