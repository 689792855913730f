/- The statements of layer 1: NumVars. -/
import Derived.Test.YtgoemlcbpnnciaaDoorLaw1A
import Derived.Test.YtgoemlcbpnnciaaDoorGrow
namespace Go.Proofs.YtgoemlcbpnnciaaDoor
open Go Go.RowKit
set_option linter.unusedVariables false

set_option maxHeartbeats 2000000 in
set_option maxRecDepth 100000 in
theorem law_NumVars (l : List UInt8) (x : Nat) (w : World) (hb : BitsOk w) (hl : l.length ≤ 9223372036854775807) (hx : x < U64) :
    Calls Tryd.prog 4 #[.string (st l), .int .u64 x] w fun e w' => e = .returned (.bool true) ∧ Below w.heap.size w w' := by
  have HB := Lib.hid hb
  clear hb
  by_cases hlen : 1000 < l.length
  · have t1 : (1000 : Int) < (l.length : Int) := by omega
    go_enter Tryd.func4, Tryd.ntmps4
    go_wp2_with fail
    refine (awake_any w HB.out).mono ?_
    rintro e w1 ⟨rfl, hbl1⟩
    go_wp2_with fail
    go_ret
    exact ⟨rfl, hbl1⟩
  · have t1 : ¬ (1000 : Int) < (l.length : Int) := by omega
    have hm : l.length ≤ maxLen := by simp only [maxLen]; omega
    have hv10 := varB_le10 hx
    go_enter Tryd.func4, Tryd.ntmps4
    go_wp2_with (refine wpList_bytes_of_st _ rfl (.tmp 10) rfl tS tB tU hm rfl ?_; intro A1 c1 w1 hbs1 hbl1 hsz1)
    clear hm
    refine (putVar_any _ _ l x w1 hx (by simp; omega) hbs1).mono ?_
    rintro e w2 ⟨A2, k2, c2, rfl, hown2, hbl2⟩
    have hk2 := hown2.len
    simp only [List.length_append] at hk2
    have hbl : Below w.heap.size w w2 := hbl1.trans (hbl2.mono (by omega))
    have HK := Lib.hid hk2
    clear hk2
    have hcv : ∀ W, Below w2.heap.size w2 W → (convert 24 9 (.slice A2 k2 c2)).run Tryd.prog W = .ok (.string (st (l ++ varB x))) W := fun W hW => run_string_of_bs (hown2.later hW).bs tB tU tS
    have HB2 := HB.out.later hbl
    have hadd : ¬ 9223372036854775807 < l.length + (varB x).length := by omega
    have hsub : IntKind.i64.wrap ((k2 : Int) - (l.length : Int)) = ((varB x).length : Int) := by rw [IntWalk.i64_in _ (by have := HK.out; omega)]; have := HK.out; omega
    go_wp2_with fail
    refine wp_region_grow_lit (by kernel_rfl) (by kernel_rfl) ?_
    apply Exists.intro
    apply And.intro
    · repeat (first
        | (apply wpGrow_skip rfl
           intro K hK
           go_simp
           refine hK _ ?_
           clear hK K)
        | (apply wpGrow_is rfl
           · intro wg hwg _
             unfold grows
             go_simp
             first
               | exact grows_value _ _
               | (apply grows_call; go_at_call 15; exact awake_any _ (HB2.later hwg))
               | (apply grows_call; go_at_call 19; exact refVar_any _ _ hx)
               | (apply grows_same; go_at_call 20; exact size_any _ _ hx)
           intro K hK
           go_simp
           refine hK _ ?_
           clear hK K))
      refine wpGrow_end (fun wg hwg _ => ?_)
      go_wp2
      go_ret
      exact ⟨rfl, hbl.trans (hwg.mono hbl.size)⟩
    · apply And.intro
      · repeat (first | exact trivial | (refine ⟨Stays.is _, ?_⟩))
      · rfl

end Go.Proofs.YtgoemlcbpnnciaaDoor
