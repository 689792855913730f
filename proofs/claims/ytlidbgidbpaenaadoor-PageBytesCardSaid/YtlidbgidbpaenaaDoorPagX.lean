/- PageFinds, PageBytes: the walks. -/
import Derived.Test.YtlidbgidbpaenaaDoorPagN
import Derived.Test.YtlidbgidbpaenaaDoorPagU
namespace Go.Proofs.YtlidbgidbpaenaaDoor
open Go Go.RowKit
set_option linter.unusedVariables false

set_option maxHeartbeats 4000000 in
set_option maxRecDepth 100000 in
theorem law_PageFinds (l1 : Bool) (n1 : Int) (va : Value) (us : List Cel) (key : List UInt8) (w : World) (hb : BitsOk w) (h1 : -9223372036854775808 ≤ n1 ∧ n1 ≤ 9223372036854775807) (ha : Cs (fun b => b < w.heap.size) w va us) (hk : key.length ≤ 9223372036854775807) :
    Calls Tryd.prog 5 #[.agg #[.bool l1, .int .i64 n1, va], .string (st key)] w fun e w' => e = .returned (.bool true) ∧ Below w.heap.size w w' := by
  have HA := Lib.hid ha
  obtain ⟨A, c, rfl, _⟩ := ha.at
  have q := (Below.refl w.heap.size w).alloc (Nat.le_refl _) (.cells #[.bool l1, .int .i64 n1, .slice A us.length c] 24)
  have b1 := Blk.new w 24 #[.bool l1, .int .i64 n1, .slice A us.length c]
  have HB := Lib.hid (hb.later q)
  have HA := Lib.hid (HA.out.up q)
  clear ha hb
  go_enter Tryd.func5, Tryd.ntmps5
  go_wp2_with fail
  generalize hW : w.alloc (.cells #[.bool l1, .int .i64 n1, .slice A us.length c] 24) = W at *
  clear hW
  have p0 : (W).cell? ⟨w.heap.size, 0, none⟩ = some (.bool l1) := b1.cell 0
  have p1 : (W).cell? ⟨w.heap.size, 1, none⟩ = some (.int .i64 n1) := b1.cell 1
  have p2 : (W).cell? ⟨w.heap.size, 2, none⟩ = some (.slice A us.length c) := b1.cell 2
  go_wp2_with fail
  by_cases hf : Few us
  · refine (few_any true _ l1 n1 _ us W HA.out ⟨fun _ => hf, fun _ => rfl⟩).mono ?_
    rintro e w3 ⟨rfl, hbl⟩
    have HF := Lib.hid hf
    have q := q.trans (hbl.mono q.size)
    have p0 := cell_later hbl p0
    have p1 := cell_later hbl p1
    have p2 := cell_later hbl p2
    have HB := Lib.hid (HB.out.later hbl)
    have HA := Lib.hid (HA.out.up hbl)
    have hl1 : us.length ≤ 100 := hf.1
    clear hf hbl
    go_wp2_with fail
    by_cases hr : RisesP us
    · have HR := Lib.hid hr
      refine (refRises_any true _ l1 n1 _ us w3 (by omega) HA.out ⟨fun _ => hr, fun _ => rfl⟩).mono ?_
      rintro e w4 ⟨rfl, hbl⟩
      have q := q.trans (hbl.mono q.size)
      have p0 := cell_later hbl p0
      have p1 := cell_later hbl p1
      have p2 := cell_later hbl p2
      have HB := Lib.hid (HB.out.later hbl)
      have HA := Lib.hid (HA.out.up hbl)
      clear hr hbl
      go_wp2_with fail
      refine (pfind_any _ l1 n1 _ us key w4 (by omega) HA.out HR.out).mono ?_
      rintro e w5 ⟨rfl, hbl⟩
      have q := q.trans (hbl.mono q.size)
      have p0 := cell_later hbl p0
      have p1 := cell_later hbl p1
      have p2 := cell_later hbl p2
      have HB := Lib.hid (HB.out.later hbl)
      have HA := Lib.hid (HA.out.up hbl)
      clear hbl
      go_wp2_with fail
      refine (refFind_any _ l1 n1 _ us key w5 (by omega) HA.out).mono ?_
      rintro e w6 ⟨rfl, hbl⟩
      have q := q.trans (hbl.mono q.size)
      have HB := Lib.hid (HB.out.later hbl)
      clear hbl
      go_wp2_with fail
      refine (awake10_any w6 HB.out).mono ?_
      rintro e w7 ⟨rfl, hbl⟩
      generalize isK us key = K at *
      go_wp2_with fail
      go_ret
      exact ⟨by simp, q.trans (hbl.mono q.size)⟩
    · refine (refRises_any false _ l1 n1 _ us w3 (by omega) HA.out ⟨(fun h => by cases h), fun h => absurd h hr⟩).mono ?_
      rintro e w4 ⟨rfl, hbl⟩
      have q := q.trans (hbl.mono q.size)
      have HB := Lib.hid (HB.out.later hbl)
      clear hbl
      go_wp2_with fail
      refine (awake10_any w4 HB.out).mono ?_
      rintro e w5 ⟨rfl, hbl⟩
      go_wp2_with fail
      go_ret
      exact ⟨rfl, q.trans (hbl.mono q.size)⟩
  · refine (few_any false _ l1 n1 _ us W HA.out ⟨(fun h => by cases h), fun h => absurd h hf⟩).mono ?_
    rintro e w4 ⟨rfl, hbl⟩
    have q := q.trans (hbl.mono q.size)
    have HB := Lib.hid (HB.out.later hbl)
    clear hbl
    go_wp2_with fail
    refine (awake10_any w4 HB.out).mono ?_
    rintro e w5 ⟨rfl, hbl⟩
    go_wp2_with fail
    go_ret
    exact ⟨rfl, q.trans (hbl.mono q.size)⟩

theorem pgF_small {leaf : Bool} {next : Int} {cs : List Cel} (hn : -9223372036854775808 ≤ next ∧ next ≤ 9223372036854775807) (hf : Few cs) : (pgF leaf next cs).length ≤ 1099511627776 := by
  have h := pgF_len leaf next cs
  have h2 := celsN_bound cs (mid_of_few hf).2
  have h3 := varB_le10 (x := next.toNat) (by unfold U64; omega)
  have h4 := varB_le10 (x := cs.length) (by have := hf.1; unfold U64; omega)
  have h6 := hf.1
  unfold pgSz at h
  have h5 : 131092 * cs.length ≤ 131092 * 1000000 := Nat.mul_le_mul_left _ (by omega)
  omega

set_option maxHeartbeats 8000000 in
set_option maxRecDepth 100000 in
theorem law_PageBytes (l1 : Bool) (n1 : Int) (va : Value) (us : List Cel) (w : World) (hb : BitsOk w) (h1 : -9223372036854775808 ≤ n1 ∧ n1 ≤ 9223372036854775807) (ha : Cs (fun b => b < w.heap.size) w va us) :
    Calls Tryd.prog 3 #[.agg #[.bool l1, .int .i64 n1, va]] w fun e w' => e = .returned (.bool true) ∧ Below w.heap.size w w' := by
  have HA := Lib.hid ha
  obtain ⟨A, c, rfl, _⟩ := ha.at
  have q := (Below.refl w.heap.size w).alloc (Nat.le_refl _) (.cells #[.bool l1, .int .i64 n1, .slice A us.length c] 24)
  have b1 := Blk.new w 24 #[.bool l1, .int .i64 n1, .slice A us.length c]
  have HB := Lib.hid (hb.later q)
  have HA := Lib.hid (HA.out.up q)
  clear ha hb
  go_enter Tryd.func3, Tryd.ntmps3
  go_wp2_with fail
  generalize hW : w.alloc (.cells #[.bool l1, .int .i64 n1, .slice A us.length c] 24) = W at *
  clear hW
  have p0 : (W).cell? ⟨w.heap.size, 0, none⟩ = some (.bool l1) := b1.cell 0
  have p1 : (W).cell? ⟨w.heap.size, 1, none⟩ = some (.int .i64 n1) := b1.cell 1
  have p2 : (W).cell? ⟨w.heap.size, 2, none⟩ = some (.slice A us.length c) := b1.cell 2
  go_wp2_with fail
  by_cases hf : Few us
  · refine (few_any true _ l1 n1 _ us W HA.out ⟨fun _ => hf, fun _ => rfl⟩).mono ?_
    rintro e w3 ⟨rfl, hbl⟩
    have HM := Lib.hid (mid_of_few hf)
    have HFL := Lib.hid (pgF_len l1 n1 us)
    have hFs := pgF_small (leaf := l1) h1 hf
    have HN := Lib.hid h1
    have q := q.trans (hbl.mono q.size)
    have p0 := cell_later hbl p0
    have p1 := cell_later hbl p1
    have p2 := cell_later hbl p2
    have HB := Lib.hid (HB.out.later hbl)
    have HA := Lib.hid (HA.out.up hbl)
    have hl1 : us.length ≤ 100 := hf.1
    clear hf hbl h1
    obtain ⟨C, hC⟩ : ∃ C, pgChk n1 us = C := ⟨_, rfl⟩
    obtain ⟨F, hF⟩ : ∃ F, pgF l1 n1 us = F := ⟨_, rfl⟩
    have kf := fun (wg : World) (hc : Cs (fun b => b < wg.heap.size) wg (.slice A us.length c) us) => refFields_any _ l1 n1 _ us wg HN.out HM.out hc
    have kc := fun (wg : World) (hc : Cs (fun b => b < wg.heap.size) wg (.slice A us.length c) us) => pcheck_any _ l1 n1 _ us wg HN.out HM.out hc
    have kr := fun (wg : World) (hc : Cs (fun b => b < wg.heap.size) wg (.slice A us.length c) us) => refPCheck_any _ l1 n1 _ us wg HN.out HM.out hc
    have kz := fun (wg : World) (hc : Cs (fun b => b < wg.heap.size) wg (.slice A us.length c) us) => psize_any _ l1 n1 _ us wg HN.out HM.out hc
    have kb := fun (wg : World) (hb : BitsOk wg) (hc : Cs (fun b => b < wg.heap.size) wg (.slice A us.length c) us) => pgbytes_any _ l1 n1 _ us wg hb HN.out HM.out hc
    have kv : C = 0 ∨ C = 100 ∨ C = 101 := by
      rw [← hC]
      unfold pgChk
      split
      · exact .inr (.inr rfl)
      · rcases chk_vals none us with h | h | h
        · rw [h]; split
          · exact .inl rfl
          · split
            · exact .inr (.inl rfl)
            · exact .inl rfl
        · rw [h]; exact .inr (.inl rfl)
        · rw [h]; exact .inr (.inr rfl)
    unfold PBytesPost at kb
    rw [hC] at kc kr kb
    rw [hF] at kf kb HFL hFs
    have hadd : IntKind.i64.wrap ((F.length : Int) + 4) = (F.length : Int) + 4 := IntWalk.i64_in _ (by omega)
    have kz' : ∀ (wg : World) (hc : Cs (fun b => b < wg.heap.size) wg (.slice A us.length c) us), Calls Tryd.prog 15 #[.agg #[.bool l1, .int .i64 n1, .slice A us.length c]] wg fun e w' => e = .returned (.int .i64 ((F.length : Int) + 4)) ∧ Below wg.heap.size wg w' := fun wg hc => by
      have h := kz wg hc
      rw [← HFL.out] at h
      rw [show ((F.length + 4 : Nat) : Int) = (F.length : Int) + 4 by omega] at h
      exact h
    have KF := Lib.hid kf
    have KC := Lib.hid kc
    have KR := Lib.hid kr
    have KZ := Lib.hid kz'
    have KB := Lib.hid kb
    clear kf kc kr kz kz' kb hC hF
    go_wp2_with fail
    refine (KB.out w3 HB.out HA.out).mono ?_
    rintro e w4 ⟨hok, hno, hbl⟩
    have q := q.trans (hbl.mono q.size)
    have p0 := cell_later hbl p0
    have p1 := cell_later hbl p1
    have p2 := cell_later hbl p2
    have HB := Lib.hid (HB.out.later hbl)
    have HA := Lib.hid (HA.out.up hbl)
    by_cases hC0 : C = 0
    · obtain ⟨A4, k4, c4, rfl, ho⟩ := hok hC0
      have HO := Lib.hid ho
      subst hC0
      clear hok hno hbl ho kv
      go_wp2_with fail
      refine (KR.out w4 HA.out).mono ?_
      rintro e w5 ⟨rfl, hbl⟩
      have q := q.trans (hbl.mono q.size)
      have p0 := cell_later hbl p0
      have p1 := cell_later hbl p1
      have p2 := cell_later hbl p2
      have HB := Lib.hid (HB.out.later hbl)
      have HO := Lib.hid (HO.out.later hbl)
      have HA := Lib.hid (HA.out.up hbl)
      clear hbl
      go_wp2_with fail
      refine wp_region_grow_lit (by kernel_rfl) (by kernel_rfl) ?_
      apply Exists.intro
      apply And.intro
      · repeat (first
          | (apply wpGrow_skip rfl
             intro K hK
             go_simp
             refine hK _ ?_
             clear hK K)
          | (apply wpGrow_is rfl
             · intro wg hwg _
               have p0 := cell_later hwg p0
               have p1 := cell_later hwg p1
               have p2 := cell_later hwg p2
               unfold grows
               go_simp
               first
                 | exact grows_value _ _
                 | (apply grows_call; go_at_call 11; exact awake10_any wg (HB.out.later hwg))
                 | (apply grows_call; go_at_call 14; exact KC.out wg (HA.out.up hwg))
                 | (apply grows_call; go_at_call 15; exact KZ.out wg (HA.out.up hwg))
                 | (apply grows_call; go_at_call 16; exact KF.out wg (HA.out.up hwg))
             intro K hK
             go_simp
             refine hK _ ?_
             clear hK K))
        refine wpGrow_end (fun w6 hbl _ => ?_)
        have q := q.trans (hbl.mono q.size)
        have p0 := cell_later hbl p0
        have p1 := cell_later hbl p1
        have p2 := cell_later hbl p2
        have HB := Lib.hid (HB.out.later hbl)
        have HO := Lib.hid (HO.out.later hbl)
        have HA := Lib.hid (HA.out.up hbl)
        clear hbl
        have hcv0 : Hid (∀ wg, Below w6.heap.size w6 wg → (convert 27 9 (.slice A4 k4 c4)).run Tryd.prog wg = .ok (.string (st (sealB F))) wg) := fun wg hwg => run_string_of_bs (P := Tryd.prog) (HO.out.later hwg).bs tB tU tS
        have hse : Hid (∀ wg, Calls Tryd.prog 17 #[.string (st F)] wg fun e w' => e = .returned (.string (st (sealB F))) ∧ Below wg.heap.size wg w') := fun wg => refSeal_any F wg hFs
        generalize sealB F = sb at *
        go_wp2_with fail
        refine wp_region_grow_lit (by kernel_rfl) (by kernel_rfl) ?_
        apply Exists.intro
        apply And.intro
        · repeat (first
            | (apply wpGrow_skip rfl
               intro K hK
               go_simp
               refine hK _ ?_
               clear hK K)
            | (apply wpGrow_is rfl
               · intro wg hwg _
                 have p0 := cell_later hwg p0
                 have p1 := cell_later hwg p1
                 have p2 := cell_later hwg p2
                 have hcv := hcv0.out wg hwg
                 unfold grows
                 go_simp
                 first
                   | exact grows_value _ _
                   | (apply grows_call; go_at_call 16; exact KF.out wg (HA.out.up hwg))
                   | (apply grows_call; go_at_call 17; exact hse.out wg)
               intro K hK
               go_simp
               refine hK _ ?_
               clear hK K))
          refine wpGrow_end (fun w7 hbl _ => ?_)
          go_wp2_with fail
          go_ret
          exact ⟨by simp, q.trans (hbl.mono q.size)⟩
        · apply And.intro
          · repeat (first | exact trivial | (refine ⟨Stays.is _, ?_⟩) | (refine ⟨Stays.bs _, ?_⟩) | (refine ⟨Stays.pg _ _ _, ?_⟩))
          · rfl
      · apply And.intro
        · repeat (first | exact trivial | (refine ⟨Stays.is _, ?_⟩) | (refine ⟨Stays.bs _, ?_⟩) | (refine ⟨Stays.pg _ _ _, ?_⟩))
        · rfl
    · have hr4 := hno hC0
      subst hr4
      have kv2 : C = 100 ∨ C = 101 := by omega
      clear hok hno hbl kv
      rcases kv2 with rfl | rfl
      all_goals
        go_wp2_with fail
        refine (KR.out w4 HA.out).mono ?_
        rintro e w5 ⟨rfl, hbl⟩
        have q := q.trans (hbl.mono q.size)
        have p0 := cell_later hbl p0
        have p1 := cell_later hbl p1
        have p2 := cell_later hbl p2
        have HB := Lib.hid (HB.out.later hbl)
        have HA := Lib.hid (HA.out.up hbl)
        clear hbl
        go_wp2_with fail
        refine wp_region_grow_lit (by kernel_rfl) (by kernel_rfl) ?_
        apply Exists.intro
        apply And.intro
        · repeat (first
            | (apply wpGrow_skip rfl
               intro K hK
               go_simp
               refine hK _ ?_
               clear hK K)
            | (apply wpGrow_is rfl
               · intro wg hwg _
                 have p0 := cell_later hwg p0
                 have p1 := cell_later hwg p1
                 have p2 := cell_later hwg p2
                 unfold grows
                 go_simp
                 first
                   | exact grows_value _ _
                   | (apply grows_call; go_at_call 11; exact awake10_any wg (HB.out.later hwg))
                   | (apply grows_call; go_at_call 14; exact KC.out wg (HA.out.up hwg))
                   | (apply grows_call; go_at_call 15; exact KZ.out wg (HA.out.up hwg))
                   | (apply grows_call; go_at_call 16; exact KF.out wg (HA.out.up hwg))
               intro K hK
               go_simp
               refine hK _ ?_
               clear hK K))
          refine wpGrow_end (fun w6 hbl _ => ?_)
          have q := q.trans (hbl.mono q.size)
          clear hbl
          go_wp2_with fail
          refine wp_region_grow_lit (by kernel_rfl) (by kernel_rfl) ?_
          apply Exists.intro
          apply And.intro
          · repeat (first
              | (apply wpGrow_skip rfl
                 intro K hK
                 go_simp
                 refine hK _ ?_
                 clear hK K)
              | (apply wpGrow_is rfl
                 · intro wg hwg _
                   skip
                   unfold grows
                   go_simp
                   first
                     | exact grows_value _ _
                     | (fail)
                 intro K hK
                 go_simp
                 refine hK _ ?_
                 clear hK K))
            refine wpGrow_end (fun w7 hbl _ => ?_)
            go_wp2_with fail
            go_ret
            exact ⟨by simp, q.trans (hbl.mono q.size)⟩
          · apply And.intro
            · repeat (first | exact trivial | (refine ⟨Stays.is _, ?_⟩) | (refine ⟨Stays.bs _, ?_⟩) | (refine ⟨Stays.pg _ _ _, ?_⟩))
            · rfl
        · apply And.intro
          · repeat (first | exact trivial | (refine ⟨Stays.is _, ?_⟩) | (refine ⟨Stays.bs _, ?_⟩) | (refine ⟨Stays.pg _ _ _, ?_⟩))
          · rfl
  · refine (few_any false _ l1 n1 _ us W HA.out ⟨(fun h => by cases h), fun h => absurd h hf⟩).mono ?_
    rintro e w4 ⟨rfl, hbl⟩
    have q := q.trans (hbl.mono q.size)
    have HB := Lib.hid (HB.out.later hbl)
    clear hbl
    go_wp2_with fail
    refine (awake10_any w4 HB.out).mono ?_
    rintro e w5 ⟨rfl, hbl⟩
    go_wp2_with fail
    go_ret
    exact ⟨rfl, q.trans (hbl.mono q.size)⟩
end Go.Proofs.YtlidbgidbpaenaaDoor
