/- alike, whatever the two pagers: it says just whether they show the same. -/
import Derived.Test.YtildohndbeagaaaGreatDoorPagerKeepsJ1
namespace Go.Proofs.YtildohndbeagaaaGreatDoor
open Go Go.RowKit
set_option linter.unusedVariables false

/-- Page i shows the same. -/
def Al1 (P : Pgr) (c : Int → List UInt8) (R : Rpg) (i : Nat) : Prop := R.has i = P.has (i : Int) ∧ (P.has (i : Int) = true → R.now i = (P.page c (i : Int)).getD [])
/-- Both show the same. -/
def Alk (P : Pgr) (c : Int → List UInt8) (R : Rpg) : Prop := R.tag = P.tag ∧ ∀ i : Nat, i < 90 → Al1 P c R i
def AbPost (w : World) (P : Pgr) (c : Int → List UInt8) (R : Rpg) (e : Ending) (w' : World) : Prop := ∃ ok, e = .returned (.bool ok) ∧ (ok = true ↔ Alk P c R) ∧ Below w.heap.size w w'
set_option maxHeartbeats 8000000 in
set_option maxRecDepth 100000 in
theorem alike13_bool (Z : Pz) (P : Pgr) (c : Int → List UInt8) (R : Rpg) (cs : Array Value) (w : World) (hp : Pg w Z P) (hok : P.D.Ok) (hst : Stored P.D P.a P.tb c) (hwl : ∀ x b, P.wr x = some b → b.length ≤ 2048) (ha0 : 0 ≤ P.a) (ha1 : P.a ≤ 65534) (h90 : ∀ x, P.has x = true → 0 ≤ x ∧ x < 90) (hcs : Rc R cs) :
    Calls Tryz.prog 11 #[.pointer (some ⟨Z.g, 0, none⟩), .agg cs] w (AbPost w P c R) := by
  have HP := Lib.hid hp
  have HCS := Lib.hid hcs
  clear hp hcs
  go_enter Tryz.func11, Tryz.ntmps11
  go_wp2_with fail
  refine (ppages_any Z P _ (HP.out.later ((Below.refl _ _).alloc (Nat.le_refl _) _))).mono ?_
  rintro e w1 ⟨v, rfl, how, hb1⟩
  have hb0 : Below w.heap.size w (w.alloc (.cells cs 35)) := (Below.refl _ _).alloc (Nat.le_refl _) _
  have HP1 := Lib.hid (HP.out.later (hb0.trans (hb1.mono hb0.size)))
  have HB1 := Lib.hid (hb0.trans (hb1.mono hb0.size))
  have HM1 := Lib.hid ((Blk.new w 35 cs).later hb1)
  obtain ⟨A, kl, cl, rfl⟩ := own_slice how
  have HO1 := Lib.hid how
  have hkl : kl = P.pages.length := by have := own_len how; rw [il_len] at this; exact this
  have HKL := Lib.hid hkl
  have hl90 : P.pages.length ≤ 90 := by
    have := List.length_filter_le (fun i : Nat => P.has (i : Int)) (List.range 90)
    rw [List.length_range] at this
    exact this
  have HST := Lib.hid hst
  have HWL := Lib.hid hwl
  have H90 := Lib.hid h90
  have HOK := Lib.hid hok
  have HBF : Hid (∀ W, Below w1.heap.size w1 W → Below w.heap.size w W) := fun W h => HB1.out.trans (h.mono HB1.out.size)
  clear how hb0 hb1 HP hst hwl h90 hok hkl
  generalize w.heap.size = gm at HM1 ⊢
  go_wp2_with fail
  go_loopw [6, 7] (fun kv iv wr => ∃ i : Nat, kv = .int .i64 ((pgTo P i).length : Int) ∧ iv = .int .i64 (i : Int) ∧ i ≤ 90 ∧ Hid (Below w1.heap.size w1 wr) ∧ Hid (∀ j, j < i → Al1 P c R j)) (fun _ iv _ => 90 - (intOf iv).toNat)
  case atStart => exact ⟨0, rfl, rfl, by omega, Below.refl _ _, fun j hj => by omega⟩
  case round =>
    obtain ⟨i, rfl, rfl, hi, HB, HAL⟩ := hrel
    by_cases hi9 : i < 90
    · go_wp2_with fail
      refine (pread_any Z P c (i : Int) wr (HP1.out.later HB.out) HOK.out HST.out HWL.out ha0 (by omega) (by unfold InI; omega)).mono ?_
      rintro e w5 ⟨A5, n5, c5, rfl, hob, hb5⟩
      have HB5 := Lib.hid (HB.out.trans (hb5.mono HB.out.size))
      have d92 : w5.cell? ⟨gm, 92 + i, none⟩ = some (.bool (R.has i)) := by rw [(HM1.out.later HB5.out).cell, HCS.out.h i hi9]
      have d362 : w5.cell? ⟨gm, 362 + i, none⟩ = some (.string (st (R.now i))) := by rw [(HM1.out.later HB5.out).cell, HCS.out.now i hi9]
      have hi0 : (0 : Int) ≤ (i : Int) := by omega
      have hi2 : (i : Int) < 90 := by omega
      have htl := pgTo_le P i
      have HNX : Hid (Al1 P c R i → ∀ j, j < i + 1 → Al1 P c R j) := fun h j hj => by
        rcases Nat.lt_or_ge j i with h1 | h1
        · exact HAL.out j h1
        · obtain rfl : j = i := by omega
          exact h
      have HBD : Hid (¬ Al1 P c R i → ¬ Alk P c R) := fun h h1 => h (h1.2 i hi9)
      by_cases hsame : R.has i = P.has (i : Int)
      case neg =>
        have HNO := Lib.hid (HBD.out fun h => hsame h.1)
        cases hh : P.has (i : Int) with
        | true =>
          have hr : R.has i = false := by
            cases hr : R.has i with
            | false => rfl
            | true => exact absurd (hr.trans hh.symm) hsame
          rw [hr] at d92
          clear hob hh hsame hr d362
          go_wp2_with fail
          go_quiet (fail)
          go_wp2_with fail
          go_ret
          exact ⟨false, rfl, ⟨fun h => (by cases h), fun h => absurd h HNO.out⟩, HBF.out _ (below_drewN HB5.out _)⟩
        | false =>
          have hr : R.has i = true := by
            cases hr : R.has i with
            | true => rfl
            | false => exact absurd (hr.trans hh.symm) hsame
          rw [hr] at d92
          clear hob hh hsame hr d362
          go_wp2_with fail
          go_quiet (fail)
          go_wp2_with fail
          go_ret
          exact ⟨false, rfl, ⟨fun h => (by cases h), fun h => absurd h HNO.out⟩, HBF.out _ (below_drewN HB5.out _)⟩
      rw [hsame] at d92
      cases hh : P.has (i : Int) with
      | true =>
        rw [hh] at d92
        obtain ⟨hk1, hk2⟩ := pgTo_full hi9 hh
        have hkl := HKL.out
        have HYES := Lib.hid (pgTo_yes hh)
        obtain ⟨pb, hpb⟩ : ∃ pb, (P.page c (i : Int)).getD [] = pb := ⟨_, rfl⟩
        rw [hpb] at hob
        have cv : ∀ m, (convert 68 9 (.slice A5 n5 c5)).run Tryz.prog (w5.drewN m) = .ok (.string (st pb)) (w5.drewN m) := fun m => run_string_of_bs (P := Tryz.prog) (Ob.drewN hob m).bs tB tU tS
        by_cases heq : R.now i = pb
        case neg =>
          have HNO := Lib.hid (HBD.out fun h => heq (by rw [h.2 hh, hpb]))
          have hs3 : (pb == R.now i) = false := by simpa using fun h => heq h.symm
          clear hpb heq hh hsame hk1 hk2 HYES hkl
          generalize R.now i = rn at *
          go_wp2_with fail
          go_quiet (fail)
          go_wp2_with fail
          go_ret
          exact ⟨false, rfl, ⟨fun h => (by cases h), fun h => absurd h HNO.out⟩, HBF.out _ (below_drewN HB5.out _)⟩
        have HNEXT := Lib.hid (HNX.out ⟨hsame, fun _ => by rw [heq, hpb]⟩)
        rw [heq] at d362
        have HO5 := Ow.later HO1.out HB5.out
        obtain ⟨gl, cl2, hvl, _, _, hcl, _⟩ := HO5.open (by rw [il_len]; omega)
        injection hvl with hA hA2 hA3
        subst hA
        clear hA2 hA3
        have dl := hcl (pgTo P i).length (by rw [il_len]; exact hk1)
        rw [il_at, hk2] at dl
        have t1 : decide ((kl : Int) ≤ ((pgTo P i).length : Int)) = false := decide_eq_false (by omega)
        have t2 : decide (kl ≤ (pgTo P i).length) = false := decide_eq_false (by omega)
        have hx1 : ((pgTo P i).length : Int) < (kl : Int) := by omega
        have hx2 : (pgTo P i).length < kl := by omega
        have HK9 : Hid (((pgTo P (i + 1)).length : Int) = ((pgTo P i).length : Int) + 1) := by rw [Hid, HYES.out, List.length_append]; simp
        clear hcl hpb HO5 hk1 hk2 HYES hkl hh heq hsame
        generalize (pgTo P i).length = k at *
        go_wp2_with fail
        go_quiet (fail)
        go_wp2_with fail
        go_roundw
        case rel => exact ⟨i + 1, by rw [HK9.out], by go_num, by omega, below_drewN HB5.out _, HNEXT⟩
        case measure => simp [intOf]; omega
      | false =>
        rw [hh] at d92
        rw [page_none hh] at hob
        have HNO := Lib.hid (pgTo_no hh)
        have HNEXT := Lib.hid (HNX.out ⟨hsame, fun h => by rw [hh] at h; cases h⟩)
        have hn0 : n5 = 0 := by have := hob.len; simpa using this
        have t1 : decide ((0 : Int) < (n5 : Int)) = false := decide_eq_false (by omega)
        have t2 : decide (0 < n5) = false := decide_eq_false (by omega)
        clear hn0 hob hh hsame d362
        go_wp2_with fail
        go_quiet (fail)
        go_wp2_with fail
        go_roundw
        case rel => exact ⟨i + 1, by rw [HNO.out], by go_num, by omega, below_drewN HB5.out _, HNEXT⟩
        case measure => simp [intOf]; omega
    · obtain rfl : i = 90 := by omega
      have N1 : P.has (-1) = false := by
        cases hh : P.has (-1) with
        | false => rfl
        | true => have := H90.out _ hh; omega
      have N2 : P.has 90 = false := by
        cases hh : P.has 90 with
        | false => rfl
        | true => have := H90.out _ hh; omega
      have HN1 := Lib.hid N1
      have HN2 := Lib.hid N2
      have HLL : Hid ((pgTo P 90).length = kl) := by rw [Hid, HKL.out]; rfl
      clear N1 N2
      go_wp2_with fail
      refine (pread_any Z P c (-1) wr (HP1.out.later HB.out) HOK.out HST.out HWL.out ha0 (by omega) (by unfold InI; omega)).mono ?_
      rintro e w5 ⟨A5, n5, c5, rfl, -, hb5⟩
      rw [HN1.out]
      have HB5 := Lib.hid (HB.out.trans (hb5.mono HB.out.size))
      clear hb5
      go_wp2_with fail
      refine (pread_any Z P c 90 w5 (HP1.out.later HB5.out) HOK.out HST.out HWL.out ha0 (by omega) (by unfold InI; omega)).mono ?_
      rintro e w6 ⟨A6, n6, c6, rfl, -, hb6⟩
      rw [HN2.out, HLL.out]
      have HB6 := Lib.hid (HB5.out.trans (hb6.mono HB5.out.size))
      have HTG : Hid (∀ m, Calls Tryz.prog 17 #[.pointer (some ⟨Z.g, 0, none⟩)] (w6.drewN m) fun e w' => e = .returned (.int .u64 (P.tag : Int)) ∧ w' = w6.drewN m) := fun m => (ptag_any Z P (w6.drewN m) (HP1.out.later (below_drewN HB6.out m))).mono (by rintro e w' ⟨h1, h2⟩; exact ⟨h1, h2.symm⟩)
      have dt : w6.cell? ⟨gm, 1, none⟩ = some (.int .u64 (R.tag : Int)) := by rw [(HM1.out.later HB6.out).cell, HCS.out.tag]
      clear hb6 HLL
      by_cases htg : P.tag = R.tag
      · have HYES : Hid (Alk P c R) := ⟨htg.symm, HAL.out⟩
        rw [← htg] at dt
        clear htg
        generalize P.tag = pt at *
        go_wp2_with fail
        go_quiet (refine Calls.quiet_of_same (HTG.out _))
        go_wp2_with fail
        go_ret
        exact ⟨true, rfl, ⟨fun _ => HYES.out, fun _ => rfl⟩, HBF.out _ (below_drewN HB6.out _)⟩
      · have HNO : Hid (¬ Alk P c R) := fun h => htg h.1.symm
        have t3 : decide ((P.tag : Int) = (R.tag : Int)) = false := decide_eq_false (by omega)
        have t4 : decide (P.tag = R.tag) = false := decide_eq_false htg
        have t5 : (P.tag == R.tag) = false := by simpa using htg
        have t6 : ((P.tag : Int) == (R.tag : Int)) = false := by simpa using (show ¬ ((P.tag : Int) = (R.tag : Int)) by omega)
        clear htg
        generalize P.tag = pt at *
        generalize R.tag = rt at *
        go_wp2_with fail
        go_quiet (refine Calls.quiet_of_same (HTG.out _))
        go_wp2_with fail
        go_ret
        exact ⟨false, rfl, ⟨fun h => (by cases h), fun h => absurd h HNO.out⟩, HBF.out _ (below_drewN HB6.out _)⟩
end Go.Proofs.YtildohndbeagaaaGreatDoor
