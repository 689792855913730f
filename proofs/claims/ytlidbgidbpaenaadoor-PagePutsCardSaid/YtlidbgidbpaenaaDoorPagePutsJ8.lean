/- What the proof of PagePuts needs, part 8. -/
import Derived.Test.YtlidbgidbpaenaaDoorPagePutsJ7

namespace Go.Proofs.YtlidbgidbpaenaaDoor
open Go Go.RowKit
set_option linter.unusedVariables false

theorem prevAt_zero (cs : List Cel) : prevAt cs 0 = none := by unfold prevAt; rw [if_pos rfl]
theorem prevAt_succ {cs : List Cel} {i : Nat} (h : i < cs.length) : prevAt cs (i + 1) = some cs[i].1 := by
  unfold prevAt
  rw [if_neg (by omega), Nat.add_sub_cancel, List.getElem?_eq_getElem h]
  rfl
theorem mid_of_few {cs : List Cel} (h : Few cs) : Mid cs := ⟨by have := h.1; omega, fun c hc => by have := h.2 c hc; omega⟩

set_option maxHeartbeats 2000000 in
set_option maxRecDepth 100000 in
theorem pcheck_any (S : Nat → Prop) (leaf : Bool) (next : Int) (v0 : Value) (cs : List Cel) (w : World) (hn : -9223372036854775808 ≤ next ∧ next ≤ 9223372036854775807) (hm : Mid cs) (hr : Cs S w v0 cs) :
    Calls Tryd.prog 14 #[.agg #[.bool leaf, .int .i64 next, v0]] w fun e w' => e = .returned (.int .i64 (pgChk next cs : Int)) ∧ Below w.heap.size w w' := by
  have HR := Lib.hid hr.lt
  have hlt := hr.lt
  obtain ⟨A, c, rfl, hlc, hcm, hA0, hA⟩ := hlt.at
  have HA := Lib.hid hA
  have hb := Blk.new w 24 #[.bool leaf, .int .i64 next, .slice A cs.length c]
  have e1 : (w.alloc (.cells #[.bool leaf, .int .i64 next, .slice A cs.length c] 24)).cell? ⟨w.heap.size, 1, none⟩ = some (.int .i64 next) := hb.cell 1
  have e2 : (w.alloc (.cells #[.bool leaf, .int .i64 next, .slice A cs.length c] 24)).cell? ⟨w.heap.size, 2, none⟩ = some (.slice A cs.length c) := hb.cell 2
  have q1 : Below w.heap.size w (w.alloc (.cells #[.bool leaf, .int .i64 next, .slice A cs.length c] 24)) := (Below.refl _ _).alloc (Nat.le_refl _) _
  clear hA hr hlt
  by_cases hnx : next < 0 ∨ 256 < next
  · have HC : Hid (pgChk next cs = 101) := by unfold pgChk; rw [Hid, if_pos hnx]
    rcases Decidable.em (next < 0) with h0 | h0
    case' inl => have hx := h0
    case' inr => have hx : 256 < next := hnx.resolve_left h0
    all_goals
      clear hnx
      go_enter Tryd.func14, Tryd.ntmps14
      go_wp2_with fail
      go_ret
      rw [HC.out]
      exact ⟨rfl, q1⟩
  · have h0 : ¬ next < 0 := fun h => hnx (.inl h)
    have h1 : ¬ 256 < next := fun h => hnx (.inr h)
    have HC : Hid (pgChk next cs = if chk none cs ≠ 0 then chk none cs else if 2048 < pgSz next cs then 100 else 0) := by unfold pgChk; rw [Hid, if_neg hnx]
    have HX := Lib.hid hm.2
    have hml := hm.1
    have HM := Lib.hid hm
    clear hnx hm
    go_enter Tryd.func14, Tryd.ntmps14
    go_wp2_with fail
    generalize hW : w.alloc (.cells #[.bool leaf, .int .i64 next, .slice A cs.length c] 24) = W at *
    clear hW
    have HB := Lib.hid hb
    have hBW := hb.lt
    go_loopw [16] (fun iv wr => ∃ i : Nat, iv = .int .i64 (i : Int) ∧ i ≤ cs.length ∧ Hid (chk none cs = chk (prevAt cs i) (cs.drop i)) ∧ Below W.heap.size W wr) (fun iv _ => cs.length - (intOf iv).toNat)
    case atStart => exact ⟨0, rfl, by omega, by rw [prevAt_zero]; rfl, Below.refl _ _⟩
    case round =>
      obtain ⟨i, rfl, hi, hck, hbl⟩ := hrel
      have hsz := hbl.size
      have qr := q1.trans (hbl.mono q1.size)
      by_cases hil : i < cs.length
      · obtain ⟨b, o, rfl, hbs, hc⟩ := HA.out (by omega)
        have c0 : wr.cell? ⟨b, o + i * 2, none⟩ = some (.string (st cs[i].1)) := (qr.cell (p := ⟨b, o + i * 2, none⟩) hbs).trans (hc i hil).1
        have c1 : wr.cell? ⟨b, o + i * 2 + 1, none⟩ = some (.string (st cs[i].2)) := (qr.cell (p := ⟨b, o + i * 2 + 1, none⟩) hbs).trans (hc i hil).2
        have hx := HX.out _ (List.getElem_mem hil)
        have HD := Lib.hid (hck.out.trans (chk_drop hil))
        have hbx := HB.out.later hbl
        obtain ⟨x, hx0⟩ : ∃ x, cs[i] = x := ⟨_, rfl⟩
        rw [hx0] at c0 c1 hx HD
        have HX0 := Lib.hid hx0
        clear hx0
        obtain ⟨k, v⟩ := x
        simp only at c0 c1 hx HD
        have hn4 := Blk.new wr 47 #[.string (st k), .string (st v)]
        have hbx4 := hbx.alloc (.cells #[.string (st k), .string (st v)] 47)
        have q4 := hbl.alloc hsz (.cells #[.string (st k), .string (st v)] 47)
        have e4 : (wr.alloc (.cells #[.string (st k), .string (st v)] 47)).cell? ⟨wr.heap.size, 0, none⟩ = some (.string (st k)) := hn4.cell 0
        have hc' : ∀ j (hj : j < cs.length), (wr.alloc (.cells #[.string (st k), .string (st v)] 47)).cell? ⟨b, o + j * 2, none⟩ = some (.string (st cs[j].1)) := fun j hj => ((qr.alloc (Nat.le_trans q1.size hsz) _).cell (p := ⟨b, o + j * 2, none⟩) hbs).trans (hc j hj).1
        have HCC := Lib.hid hc'
        clear hc hc'
        go_wp2_with fail
        refine (great_any k v _ hx.1 hx.2).mono ?_
        rintro e w5 ⟨rfl, hbl5⟩
        have hbx5 := hbx4.later hbl5
        have q5 := q4.trans (hbl5.mono q4.size)
        by_cases hg : 480 < k.length + v.length
        · have HE : Hid (pgChk next cs = 100) := by
            have h := HD.out
            rw [if_pos hg] at h
            rw [Hid, HC.out, if_pos (by rw [h]; decide), h]
          have t0 : decide (480 < k.length + v.length) = true := decide_eq_true hg
          clear hg HD HC
          go_wp2_with fail
          go_ret
          rw [HE.out]
          exact ⟨rfl, q1.trans (q5.mono q1.size)⟩
        · have t0 : decide (480 < k.length + v.length) = false := decide_eq_false hg
          have HD2 : Hid (chk none cs = if sunk (prevAt cs i) k = true then 101 else chk (prevAt cs (i + 1)) (cs.drop (i + 1))) := by
            have h := HD.out
            rw [if_neg hg] at h
            exact h
          have e5 := cell_later hbl5 e4
          have g2 : w5.cell? ⟨w.heap.size, 2, none⟩ = some (.slice (some ⟨b, o, none⟩) cs.length c) := hbx5.cell 2
          clear hg HD
          rcases i with _ | j
          · have HD3 : Hid (chk none cs = chk (prevAt cs 1) (cs.drop 1)) := by
              have h := HD2.out
              rw [prevAt_zero] at h
              rw [if_neg (by simp [sunk])] at h
              exact h
            go_wp2_with fail
            refine wp_region_grow_lit (by kernel_rfl) (by kernel_rfl) ?_
            apply Exists.intro
            apply And.intro
            · repeat (first
                | (apply wpGrow_skip rfl
                   intro K hK
                   go_simp
                   refine hK _ ?_
                   clear hK K)
                | (apply wpGrow_is rfl
                   · intro wg hwg _
                     skip
                     unfold grows
                     go_simp
                     first
                       | exact grows_value _ _
                   intro K hK
                   go_simp
                   refine hK _ ?_
                   clear hK K))
              refine wpGrow_end (fun wg hwg _ => ?_)
              go_wp2_with fail
              go_roundw
              case rel => exact ⟨1, by go_num, by omega, HD3, q5.trans (hwg.mono q5.size)⟩
              case measure => simp [intOf]; omega
            · apply And.intro
              · repeat (first | exact trivial | (refine ⟨Stays.is _, ?_⟩) | (refine ⟨Stays.bs _, ?_⟩) | (refine ⟨Stays.pg _ _ _, ?_⟩))
              · rfl
          · have hjl : j < cs.length := by omega
            have c5 := cell_later hbl5 (HCC.out j hjl)
            have HP := Lib.hid (prevAt_succ hjl)
            obtain ⟨p, hp⟩ : ∃ p, cs[j].1 = p := ⟨_, rfl⟩
            rw [hp] at c5 HP
            have hib : (0 : Int) ≤ (j : Int) := by omega
            have hwj : IntKind.i64.wrap (j : Int) = (j : Int) := IntWalk.i64_in _ (by omega)
            cases hbs2 : Op.bytesLess p k with
            | true =>
              have HD3 : Hid (chk none cs = chk (prevAt cs (j + 1 + 1)) (cs.drop (j + 1 + 1))) := by
                have h := HD2.out
                rw [HP.out, if_neg (by simp [sunk, hbs2])] at h
                exact h
              clear hp
              go_wp2_with fail
              refine wp_region_grow_lit (by kernel_rfl) (by kernel_rfl) ?_
              apply Exists.intro
              apply And.intro
              · repeat (first
                  | (apply wpGrow_skip rfl
                     intro K hK
                     go_simp
                     refine hK _ ?_
                     clear hK K)
                  | (apply wpGrow_is rfl
                     · intro wg hwg _
                       have c5' := cell_later hwg c5
                       have e5' := cell_later hwg e5
                       have g2' := cell_later hwg g2
                       unfold grows
                       go_simp
                       first
                         | exact grows_value _ _
                     intro K hK
                     go_simp
                     refine hK _ ?_
                     clear hK K))
                refine wpGrow_end (fun wg hwg _ => ?_)
                go_wp2_with fail
                go_roundw
                case rel => exact ⟨j + 1 + 1, by go_num, by omega, HD3, q5.trans (hwg.mono q5.size)⟩
                case measure => simp [intOf]; omega
              · apply And.intro
                · repeat (first | exact trivial | (refine ⟨Stays.is _, ?_⟩) | (refine ⟨Stays.bs _, ?_⟩) | (refine ⟨Stays.pg _ _ _, ?_⟩))
                · rfl
            | false =>
              have HE : Hid (pgChk next cs = 101) := by
                have h := HD2.out
                rw [HP.out, if_pos (by simp [sunk, hbs2])] at h
                rw [Hid, HC.out, if_pos (by rw [h]; decide), h]
              clear hp
              go_wp2_with fail
              refine wp_region_grow_lit (by kernel_rfl) (by kernel_rfl) ?_
              apply Exists.intro
              apply And.intro
              · repeat (first
                  | (apply wpGrow_skip rfl
                     intro K hK
                     go_simp
                     refine hK _ ?_
                     clear hK K)
                  | (apply wpGrow_is rfl
                     · intro wg hwg _
                       have c5' := cell_later hwg c5
                       have e5' := cell_later hwg e5
                       have g2' := cell_later hwg g2
                       unfold grows
                       go_simp
                       first
                         | exact grows_value _ _
                     intro K hK
                     go_simp
                     refine hK _ ?_
                     clear hK K))
                refine wpGrow_end (fun wg hwg _ => ?_)
                go_wp2_with fail
                go_ret
                rw [HE.out]
                exact ⟨rfl, q1.trans ((q5.trans (hwg.mono q5.size)).mono q1.size)⟩
              · apply And.intro
                · repeat (first | exact trivial | (refine ⟨Stays.is _, ?_⟩) | (refine ⟨Stays.bs _, ?_⟩) | (refine ⟨Stays.pg _ _ _, ?_⟩))
                · rfl
      · obtain rfl : i = cs.length := by omega
        have hbx := HB.out.later hbl
        have HE : Hid (pgChk next cs = if 2048 < pgSz next cs then 100 else 0) := by
          have h := hck.out
          rw [chk_end] at h
          rw [Hid, HC.out, if_neg (by rw [h]; decide)]
        have g0 : wr.cell? ⟨w.heap.size, 0, none⟩ = some (.bool leaf) := hbx.cell 0
        have g1 : wr.cell? ⟨w.heap.size, 1, none⟩ = some (.int .i64 next) := hbx.cell 1
        have g2 : wr.cell? ⟨w.heap.size, 2, none⟩ = some (.slice A cs.length c) := hbx.cell 2
        have HRr := Lib.hid (HR.out.up qr)
        clear hck HC
        go_wp2_with fail
        refine (psize_any _ leaf next _ cs wr hn HM.out HRr.out).mono ?_
        rintro e w6 ⟨rfl, hbl6⟩
        generalize pgSz next cs = N at *
        by_cases hN : 2048 < N
        · have HE2 : Hid (pgChk next cs = 100) := by rw [Hid, HE.out, if_pos hN]
          clear HE
          go_wp2_with fail
          go_ret
          rw [HE2.out]
          exact ⟨rfl, qr.trans (hbl6.mono qr.size)⟩
        · have HE2 : Hid (pgChk next cs = 0) := by rw [Hid, HE.out, if_neg hN]
          clear HE
          go_wp2_with fail
          go_ret
          rw [HE2.out]
          exact ⟨rfl, qr.trans (hbl6.mono qr.size)⟩
end Go.Proofs.YtlidbgidbpaenaaDoor
