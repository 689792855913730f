/- The statements of layer 1: NumGets. -/
import Derived.Test.YtgoemlcbpnnciaaDoorLaw1E
namespace Go.Proofs.YtgoemlcbpnnciaaDoor
open Go Go.RowKit
set_option linter.unusedVariables false

set_option maxHeartbeats 1000000 in
set_option maxRecDepth 100000 in
theorem law_NumGets (l : List UInt8) (n : Int) (w : World) (hb : BitsOk w) (hl : l.length ≤ 9223372036854775807) (hn : -9223372036854775808 ≤ n ∧ n ≤ 9223372036854775807) :
    Calls Tryd.prog 9 #[.string (st l), .int .i64 n] w fun e w' => e = .returned (.bool true) ∧ Below w.heap.size w w' := by
  have HB := Lib.hid hb
  clear hb hn
  by_cases hlen : 1000 < l.length
  · have t1 : (1000 : Int) < (l.length : Int) := by omega
    go_enter Tryd.func9, Tryd.ntmps9
    go_wp2_with fail
    refine (awake_any w HB.out).mono ?_
    rintro e w1 ⟨rfl, hbl1⟩
    go_wp2_with fail
    go_ret
    exact ⟨rfl, hbl1⟩
  · have t1 : ¬ (1000 : Int) < (l.length : Int) := by omega
    have hm : l.length ≤ maxLen := by simp only [maxLen]; omega
    by_cases hn : n < 1 ∨ 8 < n
    · have hcase : n < 1 ∨ (¬ n < 1 ∧ 8 < n) := by omega
      have HN := Lib.hid hn
      clear hn
      rcases hcase with h1 | ⟨h1, h2⟩
      all_goals
        go_enter Tryd.func9, Tryd.ntmps9
        go_wp2_with (refine wpList_bytes_of_st _ rfl (.tmp 13) rfl tS tB tU hm rfl ?_; intro A1 c1 w1 hbs1 hbl1 hsz1)
        refine (get_range _ n w1 HN.out).mono ?_
        rintro e w2 ⟨rfl, rfl⟩
        go_wp2_with fail
        refine (awake_any w1 (HB.out.later hbl1)).mono ?_
        rintro e w3 ⟨rfl, hbl3⟩
        go_wp2_with fail
        go_ret
        exact ⟨rfl, below_chain hbl1 hbl3⟩
    · obtain ⟨k, rfl⟩ : ∃ k : Nat, n = (k : Int) := ⟨n.toNat, by omega⟩
      have h1 : ¬ (k : Int) < 1 := by omega
      have h2 : ¬ 8 < (k : Int) := by omega
      clear hn
      by_cases hk : l.length < k
      · go_enter Tryd.func9, Tryd.ntmps9
        go_wp2_with (refine wpList_bytes_of_st _ rfl (.tmp 13) rfl tS tB tU hm rfl ?_; intro A1 c1 w1 hbs1 hbl1 hsz1)
        refine (get_short _ _ _ k w1 (by omega) (by omega) hk).mono ?_
        rintro e w2 ⟨rfl, rfl⟩
        go_wp2_with fail
        refine (awake_any w1 (HB.out.later hbl1)).mono ?_
        rintro e w3 ⟨rfl, hbl3⟩
        go_wp2_with fail
        go_ret
        exact ⟨rfl, below_chain hbl1 hbl3⟩
      · have hkl : (k : Int) ≤ (l.length : Int) := by omega
        have hk' : ¬ (l.length : Int) < (k : Int) := by omega
        go_enter Tryd.func9, Tryd.ntmps9
        go_wp2_with (refine wpList_bytes_of_st _ rfl (.tmp 13) rfl tS tB tU hm rfl ?_; intro A1 c1 w1 hbs1 hbl1 hsz1)
        refine (get_ok _ _ l k w1 (by omega) (by omega) (by omega) (by omega) hbs1).mono ?_
        rintro e w2 ⟨A2, k2, c2, rfl, hown2, hbl2⟩
        have hbl : Below w.heap.size w w2 := hbl1.trans (hbl2.mono (by omega))
        have hcv : ∀ W, Below w2.heap.size w2 W → (convert 24 9 (.slice A2 k2 c2)).run Tryd.prog W = .ok (.string (st (l.drop k))) W := fun W hW => run_string_of_bs (hown2.later hW).bs tB tU tS
        have HB2 := HB.out.later hbl
        have hdt : (l.drop k).take (l.length - k) = l.drop k := List.take_of_length_le (by simp)
        have ht8 : (l.take k).length ≤ 8 := by simp; omega
        have HT := Lib.hid ht8
        have h0 : (0 : Int) ≤ (k : Int) := by omega
        have hkn : k ≤ l.length := by omega
        clear hbs1 ht8
        go_wp2_with fail
        refine wp_region_grow_lit (by kernel_rfl) (by kernel_rfl) ?_
        apply Exists.intro
        apply And.intro
        · repeat (first
            | (apply wpGrow_skip rfl
               intro K hK
               go_simp
               refine hK _ ?_
               clear hK K)
            | (apply wpGrow_is rfl
               · intro wg hwg _
                 unfold grows
                 go_simp
                 first
                   | exact grows_value _ _
                   | (apply grows_call; go_at_call 15; exact awake_any _ (HB2.later hwg))
                   | (apply grows_same; go_at_call 26; exact refGet_any _ _ HT.out)
               intro K hK
               go_simp
               refine hK _ ?_
               clear hK K))
          refine wpGrow_end (fun wg hwg _ => ?_)
          go_wp2
          go_ret
          exact ⟨rfl, hbl.trans (hwg.mono hbl.size)⟩
        · apply And.intro
          · repeat (first | exact trivial | (refine ⟨Stays.is _, ?_⟩))
          · rfl

end Go.Proofs.YtgoemlcbpnnciaaDoor
