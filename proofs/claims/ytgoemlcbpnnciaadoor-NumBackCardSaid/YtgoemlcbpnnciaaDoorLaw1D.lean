/- The statements of layer 1: NumOnly, NumGets. -/
import Derived.Test.YtgoemlcbpnnciaaDoorLaw1C
namespace Go.Proofs.YtgoemlcbpnnciaaDoor
open Go Go.RowKit
set_option linter.unusedVariables false

/-- A slice that reads as the bytes l. -/
def VBs (l : List UInt8) : VP := fun v w => Bs (fun _ => True) w v l
theorem Bs.later {S : Nat → Prop} {w w' : World} {v : Value} {l : List UInt8} (h : Bs S w v l) (hb : Below w.heap.size w w') : Bs S w' v l := by
  obtain ⟨A, c, rfl, h3, h4, h5, h6⟩ := h.at
  refine Bs.mk_ h3 h4 h5 fun hn => ?_
  obtain ⟨b, o, hA, hS, hc⟩ := h6 hn
  exact ⟨b, o, hA, hS, fun j hj => cell_later hb (hc j hj)⟩
theorem Stays.bs (l : List UInt8) : Stays (VBs l) := fun _ _ _ hb h => Bs.later h hb
theorem Bs.any {S : Nat → Prop} {w : World} {v : Value} {l : List UInt8} (h : Bs S w v l) : Bs (fun _ => True) w v l := Sl.more h fun _ _ => trivial

set_option maxHeartbeats 1000000 in
set_option maxRecDepth 100000 in
theorem law_NumOnly (l : List UInt8) (w : World) (hb : BitsOk w) (hl : l.length ≤ 9223372036854775807) :
    Calls Tryd.prog 6 #[.string (st l)] w fun e w' => e = .returned (.bool true) ∧ Below w.heap.size w w' := by
  have HB := Lib.hid hb
  clear hb
  by_cases hlen : 1000 < l.length
  · have t1 : (1000 : Int) < (l.length : Int) := by omega
    go_enter Tryd.func6, Tryd.ntmps6
    go_wp2_with fail
    refine (awake_any w HB.out).mono ?_
    rintro e w1 ⟨rfl, hbl1⟩
    go_wp2_with fail
    go_ret
    exact ⟨rfl, hbl1⟩
  · have t1 : ¬ (1000 : Int) < (l.length : Int) := by omega
    have hm : l.length ≤ maxLen := by simp only [maxLen]; omega
    go_enter Tryd.func6, Tryd.ntmps6
    go_wp2_with (refine wpList_bytes_of_st _ rfl (.tmp 11) rfl tS tB tU hm rfl ?_; intro A1 c1 w1 hbs1 hbl1 hsz1)
    clear hm
    refine (getVar_any _ _ l w1 (by omega) hbs1).mono ?_
    rintro e w2 ⟨hok, herr⟩
    cases hg : getVarB l with
    | error er =>
      obtain ⟨rfl, hbl2⟩ := herr er hg
      have her := getV_err l 0 0 er hg
      have tne : ((er : Int) != 0) = true := by rw [bne_iff_ne]; omega
      have hbl : Below w.heap.size w w2 := hbl1.trans (hbl2.mono (by omega))
      have HB2 := HB.out.later hbl
      clear hok herr hg her hbs1
      go_wp2_with fail
      refine wp_region_grow_lit (by kernel_rfl) (by kernel_rfl) ?_
      apply Exists.intro
      apply And.intro
      · repeat (first
          | (apply wpGrow_skip rfl
             intro K hK
             go_simp
             refine hK _ ?_
             clear hK K)
          | (apply wpGrow_is rfl
             · intro wg hwg _
               unfold grows
               go_simp
               first
                 | exact grows_value _ _
                 | (apply grows_call; go_at_call 15; exact awake_any _ (HB2.later hwg))
             intro K hK
             go_simp
             refine hK _ ?_
             clear hK K))
        refine wpGrow_end (fun wg hwg _ => ?_)
        go_wp2
        go_ret
        exact ⟨rfl, hbl.trans (hwg.mono hbl.size)⟩
      · apply And.intro
        · repeat (first | exact trivial | (refine ⟨Stays.is _, ?_⟩))
        · rfl
    | ok xn =>
      obtain ⟨x, n⟩ := xn
      obtain ⟨A2, k2, c2, rfl, hown2, hbl2⟩ := hok x n hg
      obtain ⟨hx, hn1, hn2⟩ := getVarB_bound hg
      have hon := (getVarB_only hg).1
      have hbl : Below w.heap.size w w2 := hbl1.trans (hbl2.mono (by omega))
      have hcv : ∀ W, Below w2.heap.size w2 W → (convert 24 9 (.slice A2 k2 c2)).run Tryd.prog W = .ok (.string (st (l.drop n))) W := fun W hW => run_string_of_bs (hown2.later hW).bs tB tU tS
      have HB2 := HB.out.later hbl
      have hv10 := varB_le10 hx
      have hj : (varB x ++ l.drop n == l) = true := by rw [beq_iff_eq]; exact hon.symm
      have hadd : ¬ 9223372036854775807 < (varB x).length + (l.drop n).length := by simp; omega
      simp only [List.length_drop] at hadd
      clear hok herr hg hbs1 hon
      go_wp2_with fail
      refine wp_region_grow_lit (by kernel_rfl) (by kernel_rfl) ?_
      apply Exists.intro
      apply And.intro
      · repeat (first
          | (apply wpGrow_skip rfl
             intro K hK
             go_simp
             refine hK _ ?_
             clear hK K)
          | (apply wpGrow_is rfl
             · intro wg hwg _
               unfold grows
               go_simp
               first
                 | exact grows_value _ _
                 | (apply grows_call; go_at_call 15; exact awake_any _ (HB2.later hwg))
             intro K hK
             go_simp
             refine hK _ ?_
             clear hK K))
        apply wpGrow_rel (V := VBs (varB x)) rfl
        · intro wg hwg _
          unfold grows
          go_simp
          exact ⟨Below.refl _ _, (putVar_any (fun _ => False) _ [] x wg hx (by simp; omega) (Bs.nilv _ _)).mono fun e w' ⟨A, k, c, he, ho, hbb⟩ => ⟨_, he, hbb, by have := ho.bs.any; simpa [VBs] using this⟩⟩
        intro xv hxv K hK
        obtain ⟨wx, _, hbx⟩ := hxv
        obtain ⟨A3, c3, rfl, _⟩ := Bs.at hbx
        go_simp
        refine hK _ ?_
        clear hK K hbx
        apply wpGrow_is rfl
        · intro wg hwg hf
          have hb6 := hf ⟨6, .data⟩ (by simp) rfl _ _ rfl
          have hcv6 := run_string_of_bs (P := Tryd.prog) hb6 tB tU tS
          clear hf hb6
          unfold grows
          go_simp
          exact grows_value _ _
        intro K hK
        go_simp
        refine hK _ ?_
        clear hK K
        repeat (first
          | (apply wpGrow_skip rfl
             intro K hK
             go_simp
             refine hK _ ?_
             clear hK K)
          | (apply wpGrow_is rfl
             · intro wg hwg _
               unfold grows
               go_simp
               first
                 | exact grows_value _ _
             intro K hK
             go_simp
             refine hK _ ?_
             clear hK K))
        refine wpGrow_end (fun wg hwg _ => ?_)
        go_wp2
        go_ret
        exact ⟨rfl, hbl.trans (hwg.mono hbl.size)⟩
      · apply And.intro
        · repeat (first | exact trivial | (refine ⟨Stays.is _, ?_⟩) | (refine ⟨Stays.bs _, ?_⟩))
        · rfl

end Go.Proofs.YtgoemlcbpnnciaaDoor
