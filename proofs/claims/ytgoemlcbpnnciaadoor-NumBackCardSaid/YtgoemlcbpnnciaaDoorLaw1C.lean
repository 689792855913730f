/- The statements of layer 1: NumReads. -/
import Derived.Test.YtgoemlcbpnnciaaDoorLaw1A
import Derived.Test.YtgoemlcbpnnciaaDoorGrow
namespace Go.Proofs.YtgoemlcbpnnciaaDoor
open Go Go.RowKit
set_option linter.unusedVariables false

theorem getV_err : ∀ (l : List UInt8) (i v er : Nat), getV i v l = .error er → er = 10 ∨ er = 12
  | [], _, _, _, h => by simp [getV] at h; omega
  | b :: r, i, v, er, h => by
    rw [getV] at h
    split at h
    · simp at h; omega
    · split at h
      · cases h
      · exact getV_err r _ _ _ h

set_option maxHeartbeats 1000000 in
set_option maxRecDepth 100000 in
theorem law_NumReads (l : List UInt8) (w : World) (hb : BitsOk w) (hl : l.length ≤ 9223372036854775807) :
    Calls Tryd.prog 5 #[.string (st l)] w fun e w' => e = .returned (.bool true) ∧ Below w.heap.size w w' := by
  have HB := Lib.hid hb
  clear hb
  by_cases hlen : 1000 < l.length
  · have t1 : (1000 : Int) < (l.length : Int) := by omega
    go_enter Tryd.func5, Tryd.ntmps5
    go_wp2_with fail
    refine (awake_any w HB.out).mono ?_
    rintro e w1 ⟨rfl, hbl1⟩
    go_wp2_with fail
    go_ret
    exact ⟨rfl, hbl1⟩
  · have t1 : ¬ (1000 : Int) < (l.length : Int) := by omega
    have hm : l.length ≤ maxLen := by simp only [maxLen]; omega
    go_enter Tryd.func5, Tryd.ntmps5
    go_wp2_with (refine wpList_bytes_of_st _ rfl (.tmp 14) rfl tS tB tU hm rfl ?_; intro A1 c1 w1 hbs1 hbl1 hsz1)
    clear hm
    refine (getVar_any _ _ l w1 (by omega) hbs1).mono ?_
    rintro e w2 ⟨hok, herr⟩
    cases hg : getVarB l with
    | error er =>
      obtain ⟨rfl, hbl2⟩ := herr er hg
      have her := getV_err l 0 0 er hg
      have HG := Lib.hid hg
      have tne : ((er : Int) != 0) = true := by rw [bne_iff_ne]; omega
      have hbl : Below w.heap.size w w2 := hbl1.trans (hbl2.mono (by omega))
      clear hok herr hg her hbs1
      go_wp2_with fail
      refine (refGetVar_any l w2 (by omega)).mono ?_
      rintro e w3 ⟨rfl, rfl⟩
      rw [HG.out]
      simp only [refVal]
      go_wp2_with fail
      refine (awake_any w2 (HB.out.later hbl)).mono ?_
      rintro e w3 ⟨rfl, hbl3⟩
      go_wp2_with fail
      go_ret
      exact ⟨rfl, hbl.trans (hbl3.mono hbl.size)⟩
    | ok xn =>
      obtain ⟨x, n⟩ := xn
      obtain ⟨A2, k2, c2, rfl, hown2, hbl2⟩ := hok x n hg
      have hbd := getVarB_bound hg
      have HG := Lib.hid hg
      have hbl : Below w.heap.size w w2 := hbl1.trans (hbl2.mono (by omega))
      have hcv : ∀ W, Below w2.heap.size w2 W → (convert 24 9 (.slice A2 k2 c2)).run Tryd.prog W = .ok (.string (st (l.drop n))) W := fun W hW => run_string_of_bs (hown2.later hW).bs tB tU tS
      have HB2 := HB.out.later hbl
      have hdt : (l.drop n).take (l.length - n) = l.drop n := List.take_of_length_le (by simp)
      obtain ⟨_, hn1, hn2⟩ := hbd
      clear hok herr hg hbs1
      go_wp2_with fail
      refine (refGetVar_any l w2 (by omega)).mono ?_
      rintro e w3 ⟨rfl, rfl⟩
      rw [HG.out]
      simp only [refVal]
      go_wp2_with fail
      refine wp_region_grow_lit (by kernel_rfl) (by kernel_rfl) ?_
      apply Exists.intro
      apply And.intro
      · repeat (first
          | (apply wpGrow_skip rfl
             intro K hK
             go_simp
             refine hK _ ?_
             clear hK K)
          | (apply wpGrow_is rfl
             · intro wg hwg _
               unfold grows
               go_simp
               first
                 | exact grows_value _ _
                 | (apply grows_call; go_at_call 15; exact awake_any _ (HB2.later hwg))
             intro K hK
             go_simp
             refine hK _ ?_
             clear hK K))
        refine wpGrow_end (fun wg hwg _ => ?_)
        go_wp2
        go_ret
        exact ⟨rfl, hbl.trans (hwg.mono hbl.size)⟩
      · apply And.intro
        · repeat (first | exact trivial | (refine ⟨Stays.is _, ?_⟩))
        · rfl

end Go.Proofs.YtgoemlcbpnnciaaDoor
