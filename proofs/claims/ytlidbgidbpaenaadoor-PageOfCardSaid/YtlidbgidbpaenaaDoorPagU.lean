/- lapstoneref10: Check, Half: what they return. -/
import Derived.Test.YtlidbgidbpaenaaDoorPagR
namespace Go.Proofs.YtlidbgidbpaenaaDoor
open Go Go.RowKit
set_option linter.unusedVariables false

set_option maxHeartbeats 4000000 in
set_option maxRecDepth 100000 in
theorem refPCheck_any (S : Nat → Prop) (leaf : Bool) (next : Int) (v0 : Value) (cs : List Cel) (w : World) (hn : -9223372036854775808 ≤ next ∧ next ≤ 9223372036854775807) (hm : Mid cs) (hr : Cs S w v0 cs) :
    Calls Tryd.prog 13 #[.agg #[.bool leaf, .int .i64 next, v0]] w fun e w' => e = .returned (.int .i64 (pgChk next cs : Int)) ∧ Below w.heap.size w w' := by
  have HR := Lib.hid hr.lt
  have hlt := hr.lt
  obtain ⟨A, c, rfl, hlc, hcm, hA0, hA⟩ := hlt.at
  have HA := Lib.hid hA
  have hb := Blk.new w 24 #[.bool leaf, .int .i64 next, .slice A cs.length c]
  have e1 : (w.alloc (.cells #[.bool leaf, .int .i64 next, .slice A cs.length c] 24)).cell? ⟨w.heap.size, 1, none⟩ = some (.int .i64 next) := hb.cell 1
  have e2 : (w.alloc (.cells #[.bool leaf, .int .i64 next, .slice A cs.length c] 24)).cell? ⟨w.heap.size, 2, none⟩ = some (.slice A cs.length c) := hb.cell 2
  have q1 : Below w.heap.size w (w.alloc (.cells #[.bool leaf, .int .i64 next, .slice A cs.length c] 24)) := (Below.refl _ _).alloc (Nat.le_refl _) _
  clear hA hr hlt
  by_cases hnx : next < 0 ∨ 256 < next
  · have HC : Hid (pgChk next cs = 101) := by unfold pgChk; rw [Hid, if_pos hnx]
    rcases Decidable.em (next < 0) with h0 | h0
    case' inl => have hx := h0
    case' inr => have hx : 256 < next := hnx.resolve_left h0
    all_goals
      clear hnx
      go_enter Tryd.func13, Tryd.ntmps13
      go_wp2_with fail
      go_ret
      rw [HC.out]
      exact ⟨rfl, q1⟩
  · have h0 : ¬ next < 0 := fun h => hnx (.inl h)
    have h1 : ¬ 256 < next := fun h => hnx (.inr h)
    have HC : Hid (pgChk next cs = if chk none cs ≠ 0 then chk none cs else if 2048 < pgSz next cs then 100 else 0) := by unfold pgChk; rw [Hid, if_neg hnx]
    have HX := Lib.hid hm.2
    have hml := hm.1
    have HM := Lib.hid hm
    clear hnx hm
    go_enter Tryd.func13, Tryd.ntmps13
    go_wp2_with fail
    generalize hW : w.alloc (.cells #[.bool leaf, .int .i64 next, .slice A cs.length c] 24) = W at *
    clear hW
    have HB := Lib.hid hb
    have hBW := hb.lt
    have g2 : W.cell? ⟨w.heap.size, 2, none⟩ = some (.slice A cs.length c) := hb.cell 2
    go_loopw [3] (fun iv wr => ∃ i : Nat, iv = .int .i64 (i : Int) ∧ i ≤ cs.length ∧ Hid (chk none cs = chk (prevAt cs i) (cs.drop i)) ∧ ∃ n, wr = W.drewN n) (fun iv _ => cs.length - (intOf iv).toNat)
    case atStart => exact ⟨0, rfl, by omega, by rw [prevAt_zero]; rfl, 0, rfl⟩
    case round =>
      obtain ⟨i, rfl, hi, hck, n, rfl⟩ := hrel
      by_cases hil : i < cs.length
      · obtain ⟨b, o, rfl, hbs, hc⟩ := HA.out (by omega)
        have c0 : W.cell? ⟨b, o + i * 2, none⟩ = some (.string (st cs[i].1)) := (q1.cell (p := ⟨b, o + i * 2, none⟩) hbs).trans (hc i hil).1
        have c1 : W.cell? ⟨b, o + i * 2 + 1, none⟩ = some (.string (st cs[i].2)) := (q1.cell (p := ⟨b, o + i * 2 + 1, none⟩) hbs).trans (hc i hil).2
        have hx := HX.out _ (List.getElem_mem hil)
        have HD := Lib.hid (hck.out.trans (chk_drop hil))
        have HCC : Hid (∀ j (hj : j < cs.length), W.cell? ⟨b, o + j * 2, none⟩ = some (.string (st cs[j].1))) := fun j hj => (q1.cell (p := ⟨b, o + j * 2, none⟩) hbs).trans (hc j hj).1
        obtain ⟨x, hx0⟩ : ∃ x, cs[i] = x := ⟨_, rfl⟩
        rw [hx0] at c0 c1 hx HD
        clear hx0 hc hck
        obtain ⟨k, v⟩ := x
        simp only at c0 c1 hx HD
        have hwa : IntKind.i64.wrap ((k.length : Int) + (v.length : Int)) = ((k.length : Int) + (v.length : Int)) := IntWalk.i64_in _ (by omega)
        by_cases hg : 480 < k.length + v.length
        · have HE : Hid (pgChk next cs = 100) := by
            have h := HD.out
            rw [if_pos hg] at h
            rw [Hid, HC.out, if_pos (by rw [h]; decide), h]
          have t0 : (480 : Int) < (k.length : Int) + (v.length : Int) := by omega
          clear HD HC
          go_wp2_with fail
          go_quiet (fail)
          go_wp2_with fail
          go_ret
          rw [HE.out]
          exact ⟨rfl, below_drewN (below_drewN q1 _) _⟩
        · have t0 : ¬ (480 : Int) < (k.length : Int) + (v.length : Int) := by omega
          have HD2 : Hid (chk none cs = if sunk (prevAt cs i) k = true then 101 else chk (prevAt cs (i + 1)) (cs.drop (i + 1))) := by
            have h := HD.out
            rw [if_neg hg] at h
            exact h
          clear hg HD
          rcases i with _ | j
          · have HD3 : Hid (chk none cs = chk (prevAt cs 1) (cs.drop 1)) := by
              have h := HD2.out
              rw [prevAt_zero] at h
              rw [if_neg (by simp [sunk])] at h
              exact h
            simp only [Nat.zero_mul, Nat.add_zero] at c0 c1
            go_wp2_with fail
            go_quiet (fail)
            go_wp2_with fail
            go_quiet (fail)
            go_wp2_with fail
            go_roundw
            case rel => exact ⟨1, by go_num, by omega, HD3, _, rfl⟩
            case measure => simp [intOf]; omega
          · have hjl : j < cs.length := by omega
            have c5 := HCC.out j hjl
            have HP := Lib.hid (prevAt_succ hjl)
            obtain ⟨p, hp⟩ : ∃ p, cs[j].1 = p := ⟨_, rfl⟩
            rw [hp] at c5 HP
            have hib : (0 : Int) ≤ (j : Int) := by omega
            have hwj : IntKind.i64.wrap (j : Int) = (j : Int) := IntWalk.i64_in _ (by omega)
            cases hbs2 : Op.bytesLess p k with
            | true =>
              have HD3 : Hid (chk none cs = chk (prevAt cs (j + 1 + 1)) (cs.drop (j + 1 + 1))) := by
                have h := HD2.out
                rw [HP.out, if_neg (by simp [sunk, hbs2])] at h
                exact h
              clear hp
              go_wp2_with fail
              go_quiet (fail)
              go_wp2_with fail
              go_quiet (fail)
              go_wp2_with fail
              go_roundw
              case rel => exact ⟨j + 1 + 1, by go_num, by omega, HD3, _, rfl⟩
              case measure => simp [intOf]; omega
            | false =>
              have HE : Hid (pgChk next cs = 101) := by
                have h := HD2.out
                rw [HP.out, if_pos (by simp [sunk, hbs2])] at h
                rw [Hid, HC.out, if_pos (by rw [h]; decide), h]
              clear hp
              go_wp2_with fail
              go_quiet (fail)
              go_wp2_with fail
              go_quiet (fail)
              go_wp2_with fail
              go_ret
              rw [HE.out]
              exact ⟨rfl, below_drewN (below_drewN (below_drewN q1 _) _) _⟩
      · obtain rfl : i = cs.length := by omega
        have HE : Hid (pgChk next cs = if 2048 < pgSz next cs then 100 else 0) := by
          have h := hck.out
          rw [chk_end] at h
          rw [Hid, HC.out, if_neg (by rw [h]; decide)]
        have g0 : W.cell? ⟨w.heap.size, 0, none⟩ = some (.bool leaf) := HB.out.cell 0
        have g1 : W.cell? ⟨w.heap.size, 1, none⟩ = some (.int .i64 next) := HB.out.cell 1
        have qr := below_drewN q1 n
        have HRr := Lib.hid (HR.out.up qr)
        clear hck HC
        go_wp2_with fail
        refine (refFields_any _ leaf next _ cs _ hn HM.out HRr.out).mono ?_
        rintro e w6 ⟨rfl, hbl6⟩
        have HF := Lib.hid (pgF_len leaf next cs)
        have hfl : (pgF leaf next cs).length ≤ 1099511627776 := by
          have h := HF.out
          have h2 := celsN_bound cs HM.out.2
          have h3 := varB_le10 (x := next.toNat) (by unfold U64; omega)
          have h4 := varB_le10 (x := cs.length) (by unfold U64; omega)
          unfold pgSz at h
          have h5 : 131092 * cs.length ≤ 131092 * 1000000 := Nat.mul_le_mul_left _ hml
          omega
        generalize pgF leaf next cs = F at *
        have hwf : IntKind.i64.wrap ((F.length : Int) + 4) = (F.length : Int) + 4 := IntWalk.i64_in _ (by omega)
        by_cases hN : 2048 < pgSz next cs
        · have HE2 : Hid (pgChk next cs = 100) := by rw [Hid, HE.out, if_pos hN]
          have t1 : (2048 : Int) < (F.length : Int) + 4 := by have := HF.out; omega
          clear HE
          go_wp2_with fail
          go_ret
          rw [HE2.out]
          exact ⟨rfl, qr.trans (hbl6.mono qr.size)⟩
        · have HE2 : Hid (pgChk next cs = 0) := by rw [Hid, HE.out, if_neg hN]
          have t1 : ¬ (2048 : Int) < (F.length : Int) + 4 := by have := HF.out; omega
          clear HE
          go_wp2_with fail
          go_ret
          rw [HE2.out]
          exact ⟨rfl, qr.trans (hbl6.mono qr.size)⟩
end Go.Proofs.YtlidbgidbpaenaaDoor
