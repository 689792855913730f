/- PagerPlaces. -/
import Derived.Test.YtildohndbeagaaaGreatDoorPagerPlacesJ2
namespace Go.Proofs.YtildohndbeagaaaGreatDoor
open Go Go.RowKit
set_option linter.unusedVariables false

theorem lk_new (D : Dsk) (a : Int) (n : Nat) (num : Nat) (last : Int) (c : Int → List UInt8) : Lk (pgNew D a n num last (0, fun _ => none)) c (new13 n) :=
  ⟨new13_size _, new13_tag _, fun i hi => new13_flag _ (by omega) (by omega), fun i _ h => (by cases h)⟩
set_option maxHeartbeats 4000000 in
set_option maxRecDepth 100000 in
theorem law_PagerPlaces (a n : Int) (w : World) (hb : BitsOk w ∧ TabOk w) (ha : -9223372036854775808 ≤ a ∧ a ≤ 9223372036854775807) (hn : -9223372036854775808 ≤ n ∧ n ≤ 9223372036854775807) :
    Calls Tryz.prog 3 #[.int .i64 a, .int .i64 n] w fun e w' => e = .returned (.bool true) ∧ Below w.heap.size w w' := by
  have HBI := Lib.hid hb.1
  have HTA := Lib.hid hb.2
  clear hb
  go_enter Tryz.func3, Tryz.ntmps3
  go_wp2_with fail
  refine (dnew_any 10 w (by omega) (by omega)).mono ?_
  rintro e w1 ⟨h, rfl, hd, hnew, hbl⟩
  have D1 : Hid (Dp w w1 h (Dsk.new 10)) := ⟨hd, hnew, hbl⟩
  clear hd hnew hbl
  go_wp2_with fail
  refine (awake13_any _ (HTA.out.later D1.out.below) (HBI.out.later D1.out.below)).mono ?_
  rintro e w2 ⟨rfl, hbl⟩
  have D2 := Lib.hid (D1.out.later hbl)
  have HB2 := Lib.hid D2.out.below
  clear hbl D1
  by_cases hp : pgPl a n
  · have HP := Lib.hid hp
    obtain ⟨h2, h256, ha0, ha1⟩ := hp
    obtain ⟨m, rfl⟩ : ∃ m : Nat, n = (m : Int) := ⟨n.toNat, by omega⟩
    have hw4 : IntKind.i64.wrap (4 * (m : Int)) = 4 * (m : Int) := i64_inp (by omega) (by omega)
    have hw5 : IntKind.i64.wrap (65534 - 4 * (m : Int)) = 65534 - 4 * (m : Int) := i64_inp (by omega) (by omega)
    have HOP : Hid (pgOpen (Dsk.new 10) a m = some (pgNew (Dsk.new 10) a m 0 1 (0, fun _ => none))) := by
      have := (Mi.start a).open
      unfold pgOpen
      rw [Hid, show (Dsk.new 10).view = fun _ => none from rfl, this]
      rfl
    have HOK : Hid (Dsk.new 10).Ok := Dsk.Ok.new (by omega) (by omega)
    go_wp2_with fail
    refine (popen_any h (Dsk.new 10) a m w2 D2.out.dk HOK.out HP.out).mono ?_
    rintro e w3 ⟨hc, hb3⟩
    replace hc : ∃ Z, e = .returned (.tuple #[.pointer (some ⟨Z.g, 0, none⟩), .int .i64 0]) ∧ Pg w3 Z (pgNew (Dsk.new 10) a m 0 1 (0, fun _ => none)) ∧ Z.h = h := by
      rcases hc with ⟨P, Z, ho, he, hp, hz, -, -⟩ | ⟨ho, -⟩
      · rw [HOP.out] at ho
        obtain rfl := Option.some.inj ho
        exact ⟨Z, he, hp, hz⟩
      · rw [HOP.out] at ho; cases ho
    obtain ⟨Z, rfl, hpg, hz⟩ := hc
    have HPG := Lib.hid hpg
    have HDK : Hid (Dk w3 h (Dsk.new 10)) := by rw [← hz]; exact hpg.dk
    have HB3 := Lib.hid (HB2.out.trans (hb3.mono HB2.out.size))
    have i0 : ¬ (m : Int) < 2 := by omega
    have i1 : ¬ 256 < (m : Int) := by omega
    have i2 : ¬ a < 0 := by omega
    have i3 : ¬ 65534 - 4 * (m : Int) < a := by omega
    have j0 : ¬ m < 2 := by omega
    have j1 : ¬ 256 < m := by omega
    clear hpg hz hb3 D2 HOP HP HB2 h2 h256
    go_wp2_with (first
      | (go_at_call 12; refine (rnew13_any _ _).mono ?_; rintro e w4 ⟨rfl, hb4⟩; have HB4 := Lib.hid (HB3.out.trans (Below.mono hb4 HB3.out.size)); have HPG4 := Lib.hid (HPG.out.later hb4); have HDK4 := Lib.hid (HDK.out.later hb4); clear hb4)
      | (go_at_call 11; refine (alike_any Z _ (fun _ => []) _ _ HPG4.out HOK.out (fun i p l h => by cases h) (fun x b h => by cases h) ha0 (by show a ≤ 65534; omega) (fun x h => by cases h) (lk_new _ _ _ _ _ _)).mono ?_; rintro e w5 ⟨rfl, hb5⟩; have HB5 := Lib.hid (HB4.out.trans (Below.mono hb5 HB4.out.size)); have HDK5 := Lib.hid (HDK4.out.later hb5); clear hb5)
      | (go_at_call 13; refine (dused_any h _ _ HDK5.out).mono ?_; rintro e w6 ⟨rfl, rfl⟩; rw [show (Dsk.new 10).nv = 0 from rfl])
      | fail)
    go_ret
    exact ⟨rfl, HB5.out⟩
  · have HNP := Lib.hid hp
    clear hp
    go_wp2_with fail
    refine (popen_bad _ a n w2 (by unfold InI; omega) (by unfold InI; omega) HNP.out).mono ?_
    rintro e w3 ⟨rfl, rfl⟩
    by_cases h2 : n < 2
    · go_wp2_with fail
      go_ret
      exact ⟨rfl, HB2.out⟩
    by_cases h256 : 256 < n
    · go_wp2_with fail
      go_ret
      exact ⟨rfl, HB2.out⟩
    by_cases ha0 : a < 0
    · go_wp2_with fail
      go_ret
      exact ⟨rfl, HB2.out⟩
    have hw4 : IntKind.i64.wrap (4 * n) = 4 * n := i64_inp (by omega) (by omega)
    have hw5 : IntKind.i64.wrap (65534 - 4 * n) = 65534 - 4 * n := i64_inp (by omega) (by omega)
    have i3 : 65534 - 4 * n < a := by
      have := HNP.out
      unfold pgPl at this
      omega
    go_wp2_with fail
    go_ret
    exact ⟨rfl, HB2.out⟩
end Go.Proofs.YtildohndbeagaaaGreatDoor
