/- lapstoneref10.Half: what it returns. -/
import Derived.Test.YtlidbgidbpaenaaDoorPagR
namespace Go.Proofs.YtlidbgidbpaenaaDoor
open Go Go.RowKit
set_option linter.unusedVariables false

theorem celsN_step {cs : List Cel} {i : Nat} (h : i < cs.length) : celsN (cs.take (i + 1)) = celsN (cs.take i) + ((textB cs[i].1).length + (textB cs[i].2).length) := by
  rw [celsN_take_succ h]
  unfold celB
  rw [List.length_append]
theorem celsN_mid {cs : List Cel} (hm : Mid cs) (i : Nat) : celsN (cs.take i) ≤ 131092 * 1000000 := by
  have := celsN_bound (cs.take i) (fun c hc => hm.2 c (List.mem_of_mem_take hc))
  rw [List.length_take] at this
  have h2 : min i cs.length ≤ 1000000 := by have := hm.1; omega
  exact Nat.le_trans this (Nat.mul_le_mul_left _ h2)

set_option maxHeartbeats 4000000 in
set_option maxRecDepth 100000 in
theorem refHalf_any (S : Nat → Prop) (leaf : Bool) (next : Int) (v0 : Value) (cs : List Cel) (w : World) (hm : Mid cs) (hr : Cs S w v0 cs) (h2 : 2 ≤ cs.length) :
    Calls Tryd.prog 25 #[.agg #[.bool leaf, .int .i64 next, v0]] w fun e w' => ∃ k : Nat, e = .returned (.int .i64 (k : Int)) ∧ HalfAt cs k ∧ Below w.heap.size w w' := by
  have hlt := hr.lt
  obtain ⟨A, c, rfl, hlc, hcm, hA0, hA⟩ := hlt.at
  have HA := Lib.hid hA
  have HX := Lib.hid hm.2
  have HM := Lib.hid hm
  have hml := hm.1
  have hb := Blk.new w 24 #[.bool leaf, .int .i64 next, .slice A cs.length c]
  have q1 : Below w.heap.size w (w.alloc (.cells #[.bool leaf, .int .i64 next, .slice A cs.length c] 24)) := (Below.refl _ _).alloc (Nat.le_refl _) _
  clear hA hr hlt hm
  go_enter Tryd.func25, Tryd.ntmps25
  go_wp2_with fail
  generalize hW : w.alloc (.cells #[.bool leaf, .int .i64 next, .slice A cs.length c] 24) = W at *
  clear hW
  have HB := Lib.hid hb
  have hBW := hb.lt
  go_loopw [3, 4] (fun nv iv wr => ∃ i : Nat, iv = .int .i64 (i : Int) ∧ nv = .int .i64 (celsN (cs.take i) : Int) ∧ i ≤ cs.length ∧ Below W.heap.size W wr) (fun _ iv _ => cs.length - (intOf iv).toNat)
  case atStart => exact ⟨0, rfl, rfl, by omega, Below.refl _ _⟩
  case round =>
    obtain ⟨i, rfl, rfl, hi, hbl⟩ := hrel
    have qr := q1.trans (hbl.mono q1.size)
    have g2 : wr.cell? ⟨w.heap.size, 2, none⟩ = some (.slice A cs.length c) := (HB.out.later hbl).cell 2
    by_cases hil : i < cs.length
    · obtain ⟨b, o, rfl, hbs, hc⟩ := HA.out (by omega)
      have c0 : wr.cell? ⟨b, o + i * 2, none⟩ = some (.string (st cs[i].1)) := (qr.cell (p := ⟨b, o + i * 2, none⟩) hbs).trans (hc i hil).1
      have c1 : wr.cell? ⟨b, o + i * 2 + 1, none⟩ = some (.string (st cs[i].2)) := (qr.cell (p := ⟨b, o + i * 2 + 1, none⟩) hbs).trans (hc i hil).2
      have hx := HX.out _ (List.getElem_mem hil)
      have HS := Lib.hid (celsN_step hil)
      have hN := celsN_mid HM.out i
      generalize celsN (cs.take i) = N at *
      clear hc
      generalize cs[i] = x at *
      obtain ⟨k, v⟩ := x
      simp only at c0 c1 hx HS
      have l1 := textB_len hx.1
      have l2 := textB_len hx.2
      have t1 := Lib.hid (fun wg : World => refText_any k wg (by omega))
      have t2 := Lib.hid (fun wg : World => refText_any v wg (by omega))
      generalize textB k = x1 at *
      generalize textB v = x2 at *
      have a1 : ¬ 9223372036854775807 < x1.length + x2.length := by omega
      have hw2 : IntKind.i64.wrap ((N : Int) + ((x1.length : Int) + (x2.length : Int))) = (N : Int) + ((x1.length : Int) + (x2.length : Int)) := IntWalk.i64_in _ (by omega)
      go_wp2_with fail
      refine wp_region_grow_lit (by kernel_rfl) (by kernel_rfl) ?_
      apply Exists.intro
      apply And.intro
      · repeat (first
          | (apply wpGrow_skip rfl
             intro K hK
             go_simp
             refine hK _ ?_
             clear hK K)
          | (apply wpGrow_is rfl
             · intro wg hwg _
               have c0' := cell_later hwg c0
               have c1' := cell_later hwg c1
               have g2' := cell_later hwg g2
               unfold grows
               go_simp
               first
                 | exact grows_value _ _
                 | (apply grows_call; go_at_call_of 42 (Value.string (st k)); exact t1.out wg)
                 | (apply grows_call; go_at_call_of 42 (Value.string (st v)); exact t2.out wg)
             intro K hK
             go_simp
             refine hK _ ?_
             clear hK K))
        refine wpGrow_end (fun wh hwh _ => ?_)
        go_wp2_with fail
        go_roundw
        case rel => exact ⟨i + 1, by go_num, by rw [HS.out]; go_num, by omega, hbl.trans (hwh.mono hbl.size)⟩
        case measure => simp [intOf]; omega
      · apply And.intro
        · repeat (first | exact trivial | (refine ⟨Stays.is _, ?_⟩) | (refine ⟨Stays.bs _, ?_⟩) | (refine ⟨Stays.pg _ _ _, ?_⟩))
        · rfl
    · obtain rfl : i = cs.length := by omega
      have HE : Hid (celsN (cs.take cs.length) = celsN cs) := by rw [List.take_length]; rfl
      have hN := celsN_mid HM.out cs.length
      generalize celsN (cs.take cs.length) = T at *
      go_wp2_with fail
      clear g2
      go_loopw [5, 6] (fun nv iv wr => ∃ i : Nat, iv = .int .i64 (i : Int) ∧ nv = .int .i64 (celsN (cs.take i) : Int) ∧ i + 1 ≤ cs.length ∧ Hid (∀ j, 1 ≤ j → j ≤ i → 2 * celsN (cs.take j) < T) ∧ Below W.heap.size W wr) (fun _ iv _ => cs.length - (intOf iv).toNat)
      case atStart => exact ⟨0, rfl, rfl, by omega, fun j h1 h2 => by omega, hbl⟩
      case round =>
        clear hbl qr
        obtain ⟨i, rfl, rfl, hi, hall, hbl⟩ := hrel
        have qr := q1.trans (hbl.mono q1.size)
        have g2 : wr.cell? ⟨w.heap.size, 2, none⟩ = some (.slice A cs.length c) := (HB.out.later hbl).cell 2
        have hwl : IntKind.i64.wrap ((cs.length : Int) - 1) = (cs.length : Int) - 1 := IntWalk.i64_in _ (by omega)
        by_cases hil : i + 1 < cs.length
        · have hil' : i < cs.length := by omega
          have hlt1 : (i : Int) < (cs.length : Int) - 1 := by omega
          obtain ⟨b, o, rfl, hbs, hc⟩ := HA.out (by omega)
          have c0 : wr.cell? ⟨b, o + i * 2, none⟩ = some (.string (st cs[i].1)) := (qr.cell (p := ⟨b, o + i * 2, none⟩) hbs).trans (hc i hil').1
          have c1 : wr.cell? ⟨b, o + i * 2 + 1, none⟩ = some (.string (st cs[i].2)) := (qr.cell (p := ⟨b, o + i * 2 + 1, none⟩) hbs).trans (hc i hil').2
          have hx := HX.out _ (List.getElem_mem hil')
          have HS := Lib.hid (celsN_step hil')
          have hN2 := celsN_mid HM.out i
          have HNN : Hid (celsN (cs.take (i + 1)) = celsN (cs.take (i + 1))) := rfl
          obtain ⟨M, hM⟩ : ∃ M, celsN (cs.take (i + 1)) = M := ⟨_, rfl⟩
          rw [hM] at HS
          have HMM := Lib.hid hM
          clear hM HNN
          generalize celsN (cs.take i) = N at *
          clear hc
          generalize cs[i] = x at *
          obtain ⟨k, v⟩ := x
          simp only at c0 c1 hx HS
          have l1 := textB_len hx.1
          have l2 := textB_len hx.2
          have t1 := Lib.hid (fun wg : World => refText_any k wg (by omega))
          have t2 := Lib.hid (fun wg : World => refText_any v wg (by omega))
          generalize textB k = x1 at *
          generalize textB v = x2 at *
          have a1 : ¬ 9223372036854775807 < x1.length + x2.length := by omega
          have hw2 : IntKind.i64.wrap ((N : Int) + ((x1.length : Int) + (x2.length : Int))) = (M : Int) := by rw [IntWalk.i64_in _ (by omega), HS.out]; omega
          have hM3 : M ≤ 131092 * 1000000 + 131092 := by have := HS.out; omega
          have hw3 : IntKind.i64.wrap (2 * (M : Int)) = 2 * (M : Int) := IntWalk.i64_in _ (by omega)
          by_cases h2n : T ≤ 2 * M
          · have t3 : (T : Int) ≤ 2 * (M : Int) := by omega
            go_wp2_with fail
            refine wp_region_grow_lit (by kernel_rfl) (by kernel_rfl) ?_
            apply Exists.intro
            apply And.intro
            · repeat (first
                | (apply wpGrow_skip rfl
                   intro K hK
                   go_simp
                   refine hK _ ?_
                   clear hK K)
                | (apply wpGrow_is rfl
                   · intro wg hwg _
                     have c0' := cell_later hwg c0
                     have c1' := cell_later hwg c1
                     have g2' := cell_later hwg g2
                     unfold grows
                     go_simp
                     first
                       | exact grows_value _ _
                       | (apply grows_call; go_at_call_of 42 (Value.string (st k)); exact t1.out wg)
                       | (apply grows_call; go_at_call_of 42 (Value.string (st v)); exact t2.out wg)
                   intro K hK
                   go_simp
                   refine hK _ ?_
                   clear hK K))
              refine wpGrow_end (fun wh hwh _ => ?_)
              go_wp2_with fail
              go_ret
              refine ⟨i + 1, by go_num, ⟨by omega, by omega, fun j h1 h2 => ?_, .inr ?_⟩, q1.trans ((hbl.trans (hwh.mono hbl.size)).mono q1.size)⟩
              · rw [← HE.out]; exact hall.out j h1 (by omega)
              · rw [HMM.out, ← HE.out]; exact h2n
            · apply And.intro
              · repeat (first | exact trivial | (refine ⟨Stays.is _, ?_⟩) | (refine ⟨Stays.bs _, ?_⟩) | (refine ⟨Stays.pg _ _ _, ?_⟩))
              · rfl
          · have t3 : ¬ (T : Int) ≤ 2 * (M : Int) := by omega
            go_wp2_with fail
            refine wp_region_grow_lit (by kernel_rfl) (by kernel_rfl) ?_
            apply Exists.intro
            apply And.intro
            · repeat (first
                | (apply wpGrow_skip rfl
                   intro K hK
                   go_simp
                   refine hK _ ?_
                   clear hK K)
                | (apply wpGrow_is rfl
                   · intro wg hwg _
                     have c0' := cell_later hwg c0
                     have c1' := cell_later hwg c1
                     have g2' := cell_later hwg g2
                     unfold grows
                     go_simp
                     first
                       | exact grows_value _ _
                       | (apply grows_call; go_at_call_of 42 (Value.string (st k)); exact t1.out wg)
                       | (apply grows_call; go_at_call_of 42 (Value.string (st v)); exact t2.out wg)
                   intro K hK
                   go_simp
                   refine hK _ ?_
                   clear hK K))
              refine wpGrow_end (fun wh hwh _ => ?_)
              go_wp2_with fail
              go_roundw
              case rel =>
                refine ⟨i + 1, by go_num, by rw [HMM.out], by omega, fun j h1 h2 => ?_, hbl.trans (hwh.mono hbl.size)⟩
                rcases Nat.lt_or_ge i j with h3 | h3
                · obtain rfl : j = i + 1 := by omega
                  rw [HMM.out]; omega
                · exact hall.out j h1 h3
              case measure => simp [intOf]; omega
            · apply And.intro
              · repeat (first | exact trivial | (refine ⟨Stays.is _, ?_⟩) | (refine ⟨Stays.bs _, ?_⟩) | (refine ⟨Stays.pg _ _ _, ?_⟩))
              · rfl
        · obtain ⟨n, hn⟩ : ∃ n, cs.length = n + 1 := ⟨cs.length - 1, by omega⟩
          obtain rfl : i = n := by omega
          have hlt1 : ¬ (i : Int) < (cs.length : Int) - 1 := by omega
          have HL := Lib.hid hn
          clear hn
          go_wp2_with fail
          go_ret
          refine ⟨i, by rw [HL.out]; simp, ⟨by have := HL.out; omega, by omega, fun j h1 h2 => ?_, .inl HL.out.symm⟩, qr⟩
          rw [← HE.out]; exact hall.out j h1 (by omega)
end Go.Proofs.YtlidbgidbpaenaaDoor
