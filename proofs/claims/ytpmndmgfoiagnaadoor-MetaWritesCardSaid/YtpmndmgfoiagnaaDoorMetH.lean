/- MetaWrites: what is written is told. -/
import Derived.Test.YtpmndmgfoiagnaaDoorMetG
import Derived.IntWalk
namespace Go.Proofs.YtpmndmgfoiagnaaDoor
open Go Go.RowKit
set_option linter.unusedVariables false

set_option maxHeartbeats 4000000 in
set_option maxRecDepth 100000 in
theorem law_MetaWrites (v : Value) (ts : List (List UInt8)) (at_ : Nat) (w : World) (hb : BitsOk w) (hv : (∀ s ∈ ts, s.length ≤ 9223372036854775807) ∧ ts.length ≤ 9223372036854775807 ∧ Sl (fun b => b < w.heap.size) w 1 v ts.length (txts ts)) (hc : at_ < 65536) :
    Calls Tryd.prog 4 #[v, .int .u16 (at_ : Int)] w fun e w' => e = .returned (.bool true) ∧ Below w.heap.size w w' := by
  obtain ⟨hlen, hmx, hsl⟩ := hv
  have HS := Lib.hid hsl
  obtain ⟨_, A0, c0, rfl, hlc0, hcm0, hA00, hA0⟩ := hsl
  have HA := Lib.hid hA0
  have HB := Lib.hid hb
  have HLN := Lib.hid hlen
  clear hb hA0 hlen
  go_enter Tryd.func4, Tryd.ntmps4
  go_wp2_with fail
  refine (dnew_any 65536 w (by omega) (by omega)).mono ?_
  rintro e w1 ⟨h, rfl, hd, hnew, hbl⟩
  have D1 : Hid (Dp w w1 h (Dsk.new 65536)) := ⟨hd, hnew, hbl⟩
  clear hd hnew hbl
  go_wp2_with fail
  refine (awake12_any _ (HB.out.later D1.out.below)).mono ?_
  rintro e w2 ⟨rfl, hbl⟩
  have D2 := Lib.hid (D1.out.later hbl)
  clear hbl D1
  by_cases h20 : 20 < ts.length
  · go_wp2_with fail
    refine (awake12_any _ (HB.out.later D2.out.below)).mono ?_
    rintro e w3 ⟨rfl, hbl⟩
    have q := D2.out.below.trans (hbl.mono D2.out.below.size)
    go_wp2_with fail
    go_ret
    exact ⟨rfl, q⟩
  · by_cases h5 : at_ = 65535
    · subst h5
      go_wp2_with fail
      refine (mopen_bad _ _ w2 (by omega)).mono ?_
      rintro e w3 ⟨rfl, rfl⟩
      go_wp2_with fail
      go_ret
      exact ⟨rfl, D2.out.below⟩
    · have hat : (at_ : Int) ≤ 65534 := by omega
      have MR0 : Hid (Mr (Dsk.new 65536) (at_ : Int) 0 1 []) := Mr.start (by omega) (by omega) (by omega) (by omega)
      go_wp2_with fail
      refine (mopen_mp D2.out MR0.out rfl).mono ?_
      rintro e w3 ⟨g, he, hm, -⟩
      rw [if_pos rfl] at he
      subst he
      have M3 := Lib.hid hm
      clear hm
      go_wp2_with fail
      go_loopw [11, 12] (fun nv iv wr => ∃ (i num : Nat) (last : Int) (body : List UInt8) (D : Dsk) (h' : Zn), iv = .int .i64 (i : Int) ∧ i ≤ ts.length ∧ nv = .int .u64 (num : Int) ∧ num ≤ i ∧ Hid (Mp w wr h' D g (at_ : Int) num last body) ∧ Hid (h'.g = h.g)) (fun _ iv _ => ts.length - (intOf iv).toNat)
      case atStart => exact ⟨0, 0, 1, [], _, h, rfl, by omega, rfl, by omega, M3, rfl⟩
      case round =>
        obtain ⟨i, num, last, body, D, h', rfl, hi, rfl, hni, M, G⟩ := hrel
        have hsz := M.out.dp.below.size
        clear M3 D2 MR0
        by_cases hil : i < ts.length
        · obtain ⟨b, o, rfl, hbl, hcell⟩ := HA.out (by omega)
          have hcs0 : w.cell? ⟨b, o + i, none⟩ = some (.string (st ts[i])) := hcell _ _ (txts_at hil)
          have hcs : wr.cell? ⟨b, o + i, none⟩ = some (.string (st ts[i])) := (M.out.dp.below.cell (p := ⟨b, o + i, none⟩) hbl).trans hcs0
          have hU : Hid (num + 1 < U64) := by rw [Hid]; unfold U64; omega
          have hU0 : Hid (num < U64) := by rw [Hid]; unfold U64; omega
          have HLT := Lib.hid (HLN.out _ (List.getElem_mem hil))
          clear hcell
          generalize ts[i] = t at *
          by_cases hlong : 480 < t.length
          · go_wp2_with fail
            refine (mwrite_long M.out hU0.out hlong HB.out).mono ?_
            rintro e w4 ⟨rfl, h4, hg4, hm⟩
            have M4 := Lib.hid hm
            have G4 := Lib.hid (hg4.trans G.out)
            have hcs4 : w4.cell? ⟨b, o + i, none⟩ = some (.string (st t)) := (M4.out.dp.below.cell (p := ⟨b, o + i, none⟩) hbl).trans hcs0
            clear hm hg4
            go_wp2_with fail
            go_roundw
            case rel => exact ⟨i + 1, num, last, body, D, h4, by go_num, by omega, rfl, by omega, M4, G4⟩
            case measure => simp [intOf]; omega
          · have hwn : IntKind.u64.wrap ((num : Int) + 1) = ((num + 1 : Nat) : Int) := by
              rw [IntKind.wrap_u64]; have := hU.out; unfold U64 at this; omega
            go_wp2_with fail
            refine (mwrite_mp M.out hU.out (by omega) HB.out).mono ?_
            rintro e w4 ⟨rfl, h4, D4, hg4, hm⟩
            have M4 := Lib.hid hm
            have G4 := Lib.hid (hg4.trans G.out)
            have hcs4 : w4.cell? ⟨b, o + i, none⟩ = some (.string (st t)) := (M4.out.dp.below.cell (p := ⟨b, o + i, none⟩) hbl).trans hcs0
            clear hm hg4
            go_wp2_with fail
            refine (mopen_mp M4.out.dp M4.out.mr G4.out).mono ?_
            rintro e w5 ⟨g5, he, hm, hb5⟩
            rw [if_neg (by omega)] at he
            subst he
            have M5 := Lib.hid hm
            have M5b := Lib.hid (M4.out.later hb5)
            have hcs5 : w5.cell? ⟨b, o + i, none⟩ = some (.string (st t)) := (M5.out.dp.below.cell (p := ⟨b, o + i, none⟩) hbl).trans hcs0
            clear hm hb5
            go_wp2_with fail
            refine (mnumber_any _ g _ _ _ w5 M5b.out.page).mono ?_
            rintro e w6 ⟨rfl, rfl⟩
            go_wp2_with fail
            refine (mnumber_any _ g5 _ _ _ w5 M5.out.page).mono ?_
            rintro e w6 ⟨rfl, rfl⟩
            go_wp2_with fail
            rw [← G4.out]
            refine (dused_any h4 D4 w5 M5.out.dp.dk).mono ?_
            rintro e w6 ⟨rfl, rfl⟩
            rw [G4.out]
            have hnv : (D4.nv : Int) ≤ 2 := by have := M5.out.mr.nv; omega
            have hnv2 : ¬ 2 < (D4.nv : Int) := by omega
            go_wp2_with fail
            rw [← G4.out]
            refine (dpending_any h4 D4 w5 M5.out.dp.dk).mono ?_
            rintro e w6 ⟨rfl, rfl⟩
            rw [G4.out]
            have hpn := M5.out.mr.pend
            rw [hpn]
            go_wp2_with fail
            go_roundw
            case rel => exact ⟨i + 1, num + 1, 1 - last, t, D4, h4, by go_num, by omega, by go_num, by omega, M5b, G4⟩
            case measure => simp [intOf]; omega
        · go_wp2_with fail
          go_ret
          exact ⟨rfl, M.out.dp.below⟩
end Go.Proofs.YtpmndmgfoiagnaaDoor
