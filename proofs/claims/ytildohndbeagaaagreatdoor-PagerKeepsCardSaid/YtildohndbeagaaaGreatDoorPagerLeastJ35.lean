/- What the proof of PagerLeast needs, part 35. -/
import Derived.Test.YtildohndbeagaaaGreatDoorPagerLeastJ34

namespace Go.Proofs.YtildohndbeagaaaGreatDoor
open Go Go.RowKit
set_option linter.unusedVariables false

theorem pages_new (D : Dsk) (a : Int) (n num : Nat) (last : Int) (x : Nat × TF) : (pgNew D a n num last x).pages = idsOf x.2 := by
  unfold Pgr.pages idsOf pgNew Pgr.has
  simp
set_option maxHeartbeats 4000000 in
set_option maxRecDepth 100000 in
theorem law_PagerForms (body : List UInt8) (pl : Nat) (w : World) (hb : BitsOk w ∧ TabOk w) (hbd : body.length ≤ 9223372036854775807) (hpl : pl < 256) :
    Calls Tryz.prog 4 #[.string (st body), .int .u8 (pl : Int)] w fun e w' => e = .returned (.bool true) ∧ Below w.heap.size w w' := by
  have HBI := Lib.hid hb.1
  have HTA := Lib.hid hb.2
  clear hb
  obtain ⟨n, hn⟩ : ∃ n : Nat, n = 2 + pl % 100 := ⟨_, rfl⟩
  have e1 : (pl : Int).tmod 100 = ((pl % 100 : Nat) : Int) := by rw [Int.tmod_eq_emod_of_nonneg (by omega)]; omega
  have e2 : IntKind.i64.wrap (2 + ((pl % 100 : Nat) : Int)) = (n : Int) := by rw [i64_inp (by omega) (by omega), hn]; omega
  have e3 : IntKind.i64.wrap ((pl % 100 : Nat) : Int) = ((pl % 100 : Nat) : Int) := i64_inp (by omega) (by omega)
  have e4 : 2 + (pl : Int) % 100 = (n : Int) := by rw [hn]; omega
  have E4 := Lib.hid e4
  clear e4
  have hn2 : 2 ≤ n := by omega
  have hn101 : n ≤ 101 := by omega
  clear hn
  go_enter Tryz.func4, Tryz.ntmps4
  go_wp2_with fail
  rw [E4.out]
  clear e1 e2 e3
  refine (dnew_any 2000 w (by omega) (by omega)).mono ?_
  rintro e w1 ⟨h, rfl, hd, hnew, hbl⟩
  have D1 : Hid (Dp w w1 h (Dsk.new 2000)) := ⟨hd, hnew, hbl⟩
  clear hd hnew hbl
  go_wp2_with fail
  refine (awake13_any _ (HTA.out.later D1.out.below) (HBI.out.later D1.out.below)).mono ?_
  rintro e w2 ⟨rfl, hbl⟩
  have D2 := Lib.hid (D1.out.later hbl)
  clear hbl D1
  by_cases h480 : 480 < body.length
  · have t0 : decide ((480 : Int) < (body.length : Int)) = true := decide_eq_true (by omega)
    have t1 : decide (480 < body.length) = true := decide_eq_true (by omega)
    go_wp2_with fail
    refine (awake13_any _ (HTA.out.later D2.out.below) (HBI.out.later D2.out.below)).mono ?_
    rintro e w3 ⟨rfl, hbl⟩
    have q := D2.out.below.trans (hbl.mono D2.out.below.size)
    go_wp2_with fail
    go_ret
    exact ⟨rfl, q⟩
  have t0 : decide ((480 : Int) < (body.length : Int)) = false := decide_eq_false (by omega)
  have t1 : decide (480 < body.length) = false := decide_eq_false (by omega)
  have MR0 : Hid (Mr (Dsk.new 2000) 1 0 1 []) := Mr.start (by omega) (by omega) (by omega) (by omega)
  go_wp2_with fail
  refine (mopen_mp D2.out MR0.out rfl).mono ?_
  rintro e w3 ⟨g, he, hm, -⟩
  rw [if_pos rfl] at he
  subst he
  have M3 := Lib.hid hm
  clear hm D2 t0 t1 MR0
  go_wp2_with fail
  refine (mwrite_mp (t := body) M3.out (by unfold U64; omega) (by omega) HBI.out).mono ?_
  rintro e w4 ⟨rfl, h4, D4, hg4, hm⟩
  have M4 : Hid (Mp w w4 h4 D4 g 1 1 0 body) := hm
  have HG4 := Lib.hid hg4
  clear hm hg4 M3
  have HPG : Hid (pgOpen D4 1 n = (pgParse n body).map (pgNew D4 1 n 1 0)) := by
    have := M4.out.mr.mi.open
    unfold pgOpen
    rw [Hid, this]
    rfl
  have HOP : Hid (Calls Tryz.prog 10 #[.pointer (some ⟨h.g, 0, none⟩), .int .i64 1, .int .i64 (n : Int)] w4 (PoPost h4 D4 1 n w4)) := by
    rw [← HG4.out]
    exact popen_any h4 D4 1 n w4 M4.out.dp.dk M4.out.mr.ok ⟨by omega, by omega, by omega, by omega⟩
  go_wp2_with fail
  refine HOP.out.mono ?_
  rintro e w5 ⟨hc, hb5⟩
  have HB5 := Lib.hid (M4.out.dp.below.trans (hb5.mono M4.out.dp.below.size))
  have HRP := Lib.hid (rparse_any n body w5 hn2 (by omega) (by omega))
  clear hb5
  rcases hc with ⟨P, Z, ho, rfl, hp, hz, htg, -⟩ | ⟨ho, rfl⟩
  · rw [HPG.out, Option.map_eq_some_iff] at ho
    obtain ⟨⟨tag, t⟩, hps, rfl⟩ := ho
    have HPS := Lib.hid hps
    have HP := Lib.hid hp
    clear hps hp hz htg HOP HPG
    go_wp2_with fail
    refine HRP.out.mono ?_
    rintro e w6 ⟨hc, hb6⟩
    replace hc : ∃ tag t v, pgParse n body = some (tag, t) ∧ e = .returned (.tuple #[.int .u64 (tag : Int), v, .bool true]) ∧ Ow 3 w6 w5.heap.size v (il (idsOf t)) ∧ tag < U64 := by
      rcases hc with hc | ⟨hps, -⟩
      · exact hc
      · rw [HPS.out] at hps; cases hps
    obtain ⟨tag', t', v, hps, rfl, how, -⟩ := hc
    rw [HPS.out] at hps
    simp only [Option.some.injEq, Prod.mk.injEq] at hps
    obtain ⟨rfl, rfl⟩ := hps
    obtain ⟨A2, k2, c2, rfl⟩ := own_slice how
    have HP6 := Lib.hid (HP.out.later hb6)
    have HB6 := Lib.hid (HB5.out.trans (hb6.mono HB5.out.size))
    have HO6 := Lib.hid how
    clear how hb6 HP HB5 HRP
    go_wp2_with fail
    refine (ptag_any Z _ w6 HP6.out).mono ?_
    rintro e w7 ⟨rfl, rfl⟩
    rw [show (pgNew D4 1 n 1 0 (tag, t)).tag = tag from rfl]
    go_wp2_with fail
    refine (ppages_any Z _ w6 HP6.out).mono ?_
    rintro e w8 ⟨v, rfl, how, hb8⟩
    rw [pages_new] at how
    obtain ⟨A1, k1, c1, rfl⟩ := own_slice how
    have HB8 := Lib.hid (HB6.out.trans (hb8.mono HB6.out.size))
    have HO8 := Lib.hid how
    have HQ8 := Lib.hid (Ow.later HO6.out hb8)
    have hk1 : k1 = (idsOf t).length := by have := own_len how; rw [il_len] at this; exact this
    have hk2 : k2 = (idsOf t).length := by have := own_len HO6.out; rw [il_len] at this; exact this
    have hle : (idsOf t).length ≤ 90 := ids_le t
    obtain rfl : k1 = k2 := by omega
    clear how hb8 HO6 HP6 HB6
    go_wp2_with fail
    go_loopw [17] (fun iv wr => ∃ i : Nat, iv = .int .i64 (i : Int) ∧ i ≤ k1 ∧ ∃ m, wr = w8.drewN m) (fun iv _ => k1 - (intOf iv).toNat)
    case atStart => exact ⟨0, rfl, by omega, 0, rfl⟩
    case round =>
      obtain ⟨i, rfl, hi, m, rfl⟩ := hrel
      by_cases hik : i < k1
      · obtain ⟨ga, ca, hva, _, _, hca, _⟩ := HO8.out.open (by rw [il_len]; omega)
        obtain ⟨gb, cb, hvb, _, _, hcb, _⟩ := HQ8.out.open (by rw [il_len]; omega)
        injection hva with hA1 _ _
        injection hvb with hA2 _ _
        subst hA1 hA2
        have ci := hca i (by rw [il_len]; omega)
        have cj := hcb i (by rw [il_len]; omega)
        rw [il_at] at ci cj
        generalize (idsOf t).getD i 0 = y at *
        clear hca hcb
        have hi0 : (0 : Int) ≤ (i : Int) := by omega
        have hi1 : (i : Int) < (k1 : Int) := by omega
        go_wp2_with fail
        go_quiet (fail)
        go_wp2_with fail
        go_roundw
        case rel => exact ⟨i + 1, by go_num, by omega, _, rfl⟩
        case measure => simp [intOf]; omega
      · obtain rfl : i = k1 := by omega
        go_wp2_with fail
        go_ret
        exact ⟨rfl, below_drewN HB8.out m⟩
  · rw [HPG.out, Option.map_eq_none_iff] at ho
    have HPS := Lib.hid ho
    clear ho HOP HPG
    go_wp2_with fail
    refine HRP.out.mono ?_
    rintro e w6 ⟨hc, hb6⟩
    rcases hc with ⟨tag', t', v, hps, -, -, -⟩ | ⟨-, a, b, rfl⟩
    · rw [HPS.out] at hps; cases hps
    have HB6 := Lib.hid (HB5.out.trans (hb6.mono HB5.out.size))
    clear hb6 HRP HB5
    go_wp2_with fail
    go_ret
    exact ⟨rfl, HB6.out⟩
end Go.Proofs.YtildohndbeagaaaGreatDoor
