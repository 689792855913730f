/- PageSame: the walk. -/
import Derived.Test.YtlidbgidbpaenaaDoorPagN
namespace Go.Proofs.YtlidbgidbpaenaaDoor
open Go Go.RowKit
set_option linter.unusedVariables false

set_option maxHeartbeats 4000000 in
set_option maxRecDepth 100000 in
theorem law_PageSame (l1 : Bool) (n1 : Int) (va : Value) (us : List Cel) (l2 : Bool) (n2 : Int) (vb : Value) (vs : List Cel) (w : World) (hb : BitsOk w) (h1 : -9223372036854775808 ≤ n1 ∧ n1 ≤ 9223372036854775807) (ha : Cs (fun b => b < w.heap.size) w va us)
    (h2 : -9223372036854775808 ≤ n2 ∧ n2 ≤ 9223372036854775807) (hbv : Cs (fun b => b < w.heap.size) w vb vs) :
    Calls Tryd.prog 8 #[.agg #[.bool l1, .int .i64 n1, va], .agg #[.bool l2, .int .i64 n2, vb]] w fun e w' => e = .returned (.bool true) ∧ Below w.heap.size w w' := by
  have HA := Lib.hid ha
  have HV := Lib.hid hbv
  obtain ⟨A, c, rfl, _⟩ := ha.at
  obtain ⟨B, d, rfl, _⟩ := hbv.at
  have q2 : Below w.heap.size w ((w.alloc (.cells #[.bool l1, .int .i64 n1, .slice A us.length c] 24)).alloc (.cells #[.bool l2, .int .i64 n2, .slice B vs.length d] 24)) := ((Below.refl _ _).alloc (Nat.le_refl _) _).alloc (by simp) _
  have b1 : Blk ((w.alloc (.cells #[.bool l1, .int .i64 n1, .slice A us.length c] 24)).alloc (.cells #[.bool l2, .int .i64 n2, .slice B vs.length d] 24)) w.heap.size 24 #[.bool l1, .int .i64 n1, .slice A us.length c] := (Blk.new _ _ _).alloc _
  have b2 : Blk ((w.alloc (.cells #[.bool l1, .int .i64 n1, .slice A us.length c] 24)).alloc (.cells #[.bool l2, .int .i64 n2, .slice B vs.length d] 24)) (w.heap.size + 1) 24 #[.bool l2, .int .i64 n2, .slice B vs.length d] := Blk.new1 _ _ _ _
  have HB := Lib.hid (hb.later q2)
  have HAW := Lib.hid (HA.out.up q2)
  have HVW := Lib.hid (HV.out.up q2)
  clear ha hbv hb
  go_enter Tryd.func8, Tryd.ntmps8
  go_wp2_with fail
  generalize hW : (w.alloc (.cells #[.bool l1, .int .i64 n1, .slice A us.length c] 24)).alloc (.cells #[.bool l2, .int .i64 n2, .slice B vs.length d] 24) = W at *
  clear hW
  have p10 : W.cell? ⟨w.heap.size, 0, none⟩ = some (.bool l1) := b1.cell 0
  have p11 : W.cell? ⟨w.heap.size, 1, none⟩ = some (.int .i64 n1) := b1.cell 1
  have p12 : W.cell? ⟨w.heap.size, 2, none⟩ = some (.slice A us.length c) := b1.cell 2
  have p20 : W.cell? ⟨w.heap.size + 1, 0, none⟩ = some (.bool l2) := b2.cell 0
  have p21 : W.cell? ⟨w.heap.size + 1, 1, none⟩ = some (.int .i64 n2) := b2.cell 1
  have p22 : W.cell? ⟨w.heap.size + 1, 2, none⟩ = some (.slice B vs.length d) := b2.cell 2
  go_wp2_with fail
  by_cases hf : Few us
  · refine (few_any true _ l1 n1 _ us W HAW.out ⟨fun _ => hf, fun _ => rfl⟩).mono ?_
    rintro e w3 ⟨rfl, hbl3⟩
    have HF := Lib.hid hf
    have q3 := q2.trans (hbl3.mono q2.size)
    have p10 := cell_later hbl3 p10
    have p11 := cell_later hbl3 p11
    have p12 := cell_later hbl3 p12
    have p20 := cell_later hbl3 p20
    have p21 := cell_later hbl3 p21
    have p22 := cell_later hbl3 p22
    have HB3 := Lib.hid (HB.out.later hbl3)
    have HA3 := Lib.hid (HAW.out.up hbl3)
    have HV3 := Lib.hid (HVW.out.up hbl3)
    clear hf hbl3
    go_wp2_with fail
    by_cases hg : Few vs
    · refine (few_any true _ l2 n2 _ vs w3 HV3.out ⟨fun _ => hg, fun _ => rfl⟩).mono ?_
      rintro e w4 ⟨rfl, hbl4⟩
      have HG := Lib.hid hg
      have q4 := q3.trans (hbl4.mono q3.size)
      have p10 := cell_later hbl4 p10
      have p11 := cell_later hbl4 p11
      have p12 := cell_later hbl4 p12
      have p20 := cell_later hbl4 p20
      have p21 := cell_later hbl4 p21
      have p22 := cell_later hbl4 p22
      have HB4 := Lib.hid (HB3.out.later hbl4)
      have HA4 := Lib.hid (HA3.out.up hbl4)
      have HV4 := Lib.hid (HV3.out.up hbl4)
      have hl1 : us.length ≤ 100 := HF.out.1
      have hl2 : vs.length ≤ 100 := HG.out.1
      clear hg hbl4
      go_wp2_with fail
      refine (pjoin_any _ _ l1 l2 n1 n2 _ _ us vs w4 (by omega) (by omega) HA4.out HV4.out).mono ?_
      rintro e w5 ⟨v5, rfl, ⟨A5, c5, rfl, hc5⟩, hbl5⟩
      have hLL : (us ++ vs).length = us.length + vs.length := List.length_append
      rw [hLL]
      have hp5 := Blk.new w5 24 #[.bool l1, .int .i64 n2, .slice A5 (us.length + vs.length) c5]
      have q6 : Below w4.heap.size w4 (w5.alloc (.cells #[.bool l1, .int .i64 n2, .slice A5 (us.length + vs.length) c5] 24)) := hbl5.alloc hbl5.size _
      have p10 := cell_later q6 p10
      have p11 := cell_later q6 p11
      have p12 := cell_later q6 p12
      have p20 := cell_later q6 p20
      have p21 := cell_later q6 p21
      have p22 := cell_later q6 p22
      have HB6 := Lib.hid (HB4.out.later q6)
      have HA6 := Lib.hid (HA4.out.up q6)
      have HV6 := Lib.hid (HV4.out.up q6)
      have q7 := q4.trans (q6.mono q4.size)
      clear hbl5 hc5 hLL
      go_wp2_with fail
      generalize hW6 : w5.alloc (.cells #[.bool l1, .int .i64 n2, .slice A5 (us.length + vs.length) c5] 24) = W6 at *
      clear hW6
      have p50 : W6.cell? ⟨w5.heap.size, 0, none⟩ = some (.bool l1) := hp5.cell 0
      have p51 : W6.cell? ⟨w5.heap.size, 1, none⟩ = some (.int .i64 n2) := hp5.cell 1
      have p52 : W6.cell? ⟨w5.heap.size, 2, none⟩ = some (.slice A5 (us.length + vs.length) c5) := hp5.cell 2
      have hadd : IntKind.i64.wrap ((us.length : Int) + (vs.length : Int)) = ((us.length : Int) + (vs.length : Int)) := IntWalk.i64_in _ (by omega)
      obtain ⟨R, hR⟩ : ∃ R, R = decide (l1 = l2 ∧ n1 = n2 ∧ us = vs) := ⟨_, rfl⟩
      have k1 : Hid (∀ wg, Below W6.heap.size W6 wg → _) := fun wg hwg => awake10_any wg (HB6.out.later hwg)
      have k2 : Hid (∀ wg, Below W6.heap.size W6 wg → _) := fun wg hwg => psame_at R _ _ l1 l2 n1 n2 _ _ us vs wg (HA6.out.up hwg) (HV6.out.up hwg) hR
      have k3 : Hid (∀ wg, Below W6.heap.size W6 wg → _) := fun wg hwg => refPSame_at R _ _ l1 l2 n1 n2 _ _ us vs wg (HA6.out.up hwg) (HV6.out.up hwg) hR
      have k4 : Hid (∀ wg, Below W6.heap.size W6 wg → _) := fun wg hwg => psame_at true _ _ l1 l1 n1 n1 _ _ us us wg (HA6.out.up hwg) (HA6.out.up hwg) (by simp)
      clear hp5 hR b1 b2
      refine wp_region_grow_lit (by kernel_rfl) (by kernel_rfl) ?_
      apply Exists.intro
      apply And.intro
      · repeat (first
          | (apply wpGrow_skip rfl
             intro K hK
             go_simp
             refine hK _ ?_
             clear hK K)
          | (apply wpGrow_is rfl
             · intro wg hwg _
               have p10 := cell_later hwg p10
               have p11 := cell_later hwg p11
               have p12 := cell_later hwg p12
               have p20 := cell_later hwg p20
               have p21 := cell_later hwg p21
               have p22 := cell_later hwg p22
               have p50 := cell_later hwg p50
               have p51 := cell_later hwg p51
               have p52 := cell_later hwg p52
               unfold grows
               go_simp
               first
                 | exact grows_value _ _
                 | (apply grows_call; go_at_call 11; exact k1.out wg hwg)
                 | (apply grows_call; go_at_call_of 27 (Value.slice B vs.length d); exact k2.out wg hwg)
                 | (apply grows_call; go_at_call 20; exact k3.out wg hwg)
                 | (apply grows_call; go_at_call_of 27 (Value.slice A us.length c); exact k4.out wg hwg)
             intro K hK
             go_simp
             refine hK _ ?_
             clear hK K))
        refine wpGrow_end (fun wg hwg _ => ?_)
        go_wp2_with fail
        go_ret
        exact ⟨by simp, q7.trans (hwg.mono q7.size)⟩
      · apply And.intro
        · repeat (first | exact trivial | (refine ⟨Stays.is _, ?_⟩) | (refine ⟨Stays.bs _, ?_⟩) | (refine ⟨Stays.pg _ _ _, ?_⟩))
        · rfl
    · refine (few_any false _ l2 n2 _ vs w3 HV3.out ⟨(fun h => by cases h), fun h => absurd h hg⟩).mono ?_
      rintro e w4 ⟨rfl, hbl4⟩
      have HB4 := Lib.hid (HB3.out.later hbl4)
      go_wp2_with fail
      refine (awake10_any w4 HB4.out).mono ?_
      rintro e w5 ⟨rfl, hbl5⟩
      go_wp2_with fail
      go_ret
      exact ⟨rfl, (q3.trans (hbl4.mono q3.size)).trans (hbl5.mono (q3.trans (hbl4.mono q3.size)).size)⟩
  · refine (few_any false _ l1 n1 _ us W HAW.out ⟨(fun h => by cases h), fun h => absurd h hf⟩).mono ?_
    rintro e w4 ⟨rfl, hbl4⟩
    have HB4 := Lib.hid (HB.out.later hbl4)
    go_wp2_with fail
    refine (awake10_any w4 HB4.out).mono ?_
    rintro e w5 ⟨rfl, hbl5⟩
    go_wp2_with fail
    go_ret
    exact ⟨rfl, (q2.trans (hbl4.mono q2.size)).trans (hbl5.mono (q2.trans (hbl4.mono q2.size)).size)⟩
end Go.Proofs.YtlidbgidbpaenaaDoor
