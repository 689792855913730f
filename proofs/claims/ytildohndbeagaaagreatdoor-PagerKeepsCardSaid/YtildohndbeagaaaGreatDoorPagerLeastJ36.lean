/- What the proof of PagerLeast needs, part 36. -/
import Derived.Test.YtildohndbeagaaaGreatDoorPagerLeastJ35

namespace Go.Proofs.YtildohndbeagaaaGreatDoor
open Go Go.RowKit
set_option linter.unusedVariables false

/-- What the document's pager says, as alike reads it. -/
structure Lk (P : Pgr) (c : Int → List UInt8) (cs : Array Value) : Prop where
  size : cs.size = 452
  tag : cs[1]? = some (.int .u64 (P.tag : Int))
  has : ∀ i : Nat, i < 90 → cs[92 + i]? = some (.bool (P.has (i : Int)))
  now : ∀ i : Nat, i < 90 → P.has (i : Int) = true → cs[362 + i]? = some (.string (st ((P.page c (i : Int)).getD [])))
theorem pgTo_full {P : Pgr} {i : Nat} (hi : i < 90) (hh : P.has (i : Int) = true) : (pgTo P i).length < P.pages.length ∧ P.pages.getD (pgTo P i).length 0 = i := by
  have e : P.pages = pgTo P i ++ i :: (List.range' (i + 1) (89 - i)).filter fun j : Nat => P.has (j : Int) := by
    unfold Pgr.pages pgTo
    rw [List.range_eq_range', show 90 = i + ((89 - i) + 1) by omega, ← List.range'_append_1, List.filter_append, ← List.range_eq_range', Nat.zero_add, List.range'_succ, List.filter_cons_of_pos (by exact hh)]
  rw [e]
  constructor
  · simp
  · simp [List.getD_eq_getElem?_getD]
theorem pgTo_last (P : Pgr) : pgTo P 90 = P.pages := rfl
theorem page_none {P : Pgr} {c : Int → List UInt8} {x : Int} (h : P.has x = false) : (P.page c x).getD [] = [] := by
  unfold Pgr.page
  rw [if_neg (by rw [h]; simp)]
  rfl
set_option maxHeartbeats 4000000 in
set_option maxRecDepth 100000 in
theorem alike_any (Z : Pz) (P : Pgr) (c : Int → List UInt8) (cs : Array Value) (w : World) (hp : Pg w Z P) (hok : P.D.Ok) (hst : Stored P.D P.a P.tb c) (hwl : ∀ x b, P.wr x = some b → b.length ≤ 2048) (ha0 : 0 ≤ P.a) (ha1 : P.a ≤ 65534) (h90 : ∀ x, P.has x = true → 0 ≤ x ∧ x < 90) (hcs : Lk P c cs) :
    Calls Tryz.prog 11 #[.pointer (some ⟨Z.g, 0, none⟩), .agg cs] w fun e w' => e = .returned (.bool true) ∧ Below w.heap.size w w' := by
  have HP := Lib.hid hp
  have HCS := Lib.hid hcs
  clear hp hcs
  go_enter Tryz.func11, Tryz.ntmps11
  go_wp2_with fail
  refine (ppages_any Z P _ (HP.out.later ((Below.refl _ _).alloc (Nat.le_refl _) _))).mono ?_
  rintro e w1 ⟨v, rfl, how, hb1⟩
  have hb0 : Below w.heap.size w (w.alloc (.cells cs 35)) := (Below.refl _ _).alloc (Nat.le_refl _) _
  have HP1 := Lib.hid (HP.out.later (hb0.trans (hb1.mono hb0.size)))
  have HB1 := Lib.hid (hb0.trans (hb1.mono hb0.size))
  have HM1 := Lib.hid ((Blk.new w 35 cs).later hb1)
  obtain ⟨A, kl, cl, rfl⟩ := own_slice how
  have HO1 := Lib.hid how
  have hkl : kl = P.pages.length := by have := own_len how; rw [il_len] at this; exact this
  have HKL := Lib.hid hkl
  have hl90 : P.pages.length ≤ 90 := by
    have := List.length_filter_le (fun i : Nat => P.has (i : Int)) (List.range 90)
    rw [List.length_range] at this
    exact this
  have HST := Lib.hid hst
  have HWL := Lib.hid hwl
  have H90 := Lib.hid h90
  have HOK := Lib.hid hok
  have HBF : Hid (∀ W, Below w1.heap.size w1 W → Below w.heap.size w W) := fun W h => HB1.out.trans (h.mono HB1.out.size)
  clear how hb0 hb1 HP hst hwl h90 hok hkl
  generalize w.heap.size = gm at HM1 ⊢
  go_wp2_with fail
  go_loopw [6, 7] (fun kv iv wr => ∃ i : Nat, kv = .int .i64 ((pgTo P i).length : Int) ∧ iv = .int .i64 (i : Int) ∧ i ≤ 90 ∧ Hid (Below w1.heap.size w1 wr)) (fun _ iv _ => 90 - (intOf iv).toNat)
  case atStart => exact ⟨0, rfl, rfl, by omega, Below.refl _ _⟩
  case round =>
    obtain ⟨i, rfl, rfl, hi, HB⟩ := hrel
    by_cases hi9 : i < 90
    · go_wp2_with fail
      refine (pread_any Z P c (i : Int) wr (HP1.out.later HB.out) HOK.out HST.out HWL.out ha0 (by omega) (by unfold InI; omega)).mono ?_
      rintro e w5 ⟨A5, n5, c5, rfl, hob, hb5⟩
      have HB5 := Lib.hid (HB.out.trans (hb5.mono HB.out.size))
      have d92 : w5.cell? ⟨gm, 92 + i, none⟩ = some (.bool (P.has (i : Int))) := by rw [(HM1.out.later HB5.out).cell, HCS.out.has i hi9]
      have hi0 : (0 : Int) ≤ (i : Int) := by omega
      have hi2 : (i : Int) < 90 := by omega
      have htl := pgTo_le P i
      cases hh : P.has (i : Int) with
      | true =>
        have d362 : w5.cell? ⟨gm, 362 + i, none⟩ = some (.string (st ((P.page c (i : Int)).getD []))) := by rw [(HM1.out.later HB5.out).cell, HCS.out.now i hi9 hh]
        rw [hh] at d92
        obtain ⟨hk1, hk2⟩ := pgTo_full hi9 hh
        have hkl := HKL.out
        have HYES := Lib.hid (pgTo_yes hh)
        obtain ⟨pb, hpb⟩ : ∃ pb, (P.page c (i : Int)).getD [] = pb := ⟨_, rfl⟩
        rw [hpb] at d362 hob
        have cv : ∀ m, (convert 68 9 (.slice A5 n5 c5)).run Tryz.prog (w5.drewN m) = .ok (.string (st pb)) (w5.drewN m) := fun m => run_string_of_bs (P := Tryz.prog) (Ob.drewN hob m).bs tB tU tS
        have HO5 := Ow.later HO1.out HB5.out
        obtain ⟨gl, cl2, hvl, _, _, hcl, _⟩ := HO5.open (by rw [il_len]; omega)
        injection hvl with hA hA2 hA3
        subst hA
        clear hA2 hA3
        have dl := hcl (pgTo P i).length (by rw [il_len]; exact hk1)
        rw [il_at, hk2] at dl
        have t1 : decide ((kl : Int) ≤ ((pgTo P i).length : Int)) = false := decide_eq_false (by omega)
        have t2 : decide (kl ≤ (pgTo P i).length) = false := decide_eq_false (by omega)
        have hx1 : ((pgTo P i).length : Int) < (kl : Int) := by omega
        have hx2 : (pgTo P i).length < kl := by omega
        have HK9 : Hid (((pgTo P (i + 1)).length : Int) = ((pgTo P i).length : Int) + 1) := by rw [Hid, HYES.out, List.length_append]; simp
        clear hcl hpb HO5 hk1 hk2 HYES hkl hh
        generalize (pgTo P i).length = k at *
        go_wp2_with fail
        go_quiet (fail)
        go_wp2_with fail
        go_roundw
        case rel => exact ⟨i + 1, by rw [HK9.out], by go_num, by omega, below_drewN HB5.out _⟩
        case measure => simp [intOf]; omega
      | false =>
        rw [hh] at d92
        rw [page_none hh] at hob
        have HNO := Lib.hid (pgTo_no hh)
        have hn0 : n5 = 0 := by have := hob.len; simpa using this
        have t1 : decide ((0 : Int) < (n5 : Int)) = false := decide_eq_false (by omega)
        have t2 : decide (0 < n5) = false := decide_eq_false (by omega)
        clear hn0 hob hh
        go_wp2_with fail
        go_quiet (fail)
        go_wp2_with fail
        go_roundw
        case rel => exact ⟨i + 1, by rw [HNO.out], by go_num, by omega, below_drewN HB5.out _⟩
        case measure => simp [intOf]; omega
    · obtain rfl : i = 90 := by omega
      have N1 : P.has (-1) = false := by
        cases hh : P.has (-1) with
        | false => rfl
        | true => have := H90.out _ hh; omega
      have N2 : P.has 90 = false := by
        cases hh : P.has 90 with
        | false => rfl
        | true => have := H90.out _ hh; omega
      have HN1 := Lib.hid N1
      have HN2 := Lib.hid N2
      have HLL : Hid ((pgTo P 90).length = kl) := by rw [Hid, HKL.out]; rfl
      clear N1 N2
      go_wp2_with fail
      refine (pread_any Z P c (-1) wr (HP1.out.later HB.out) HOK.out HST.out HWL.out ha0 (by omega) (by unfold InI; omega)).mono ?_
      rintro e w5 ⟨A5, n5, c5, rfl, -, hb5⟩
      rw [HN1.out]
      have HB5 := Lib.hid (HB.out.trans (hb5.mono HB.out.size))
      clear hb5
      go_wp2_with fail
      refine (pread_any Z P c 90 w5 (HP1.out.later HB5.out) HOK.out HST.out HWL.out ha0 (by omega) (by unfold InI; omega)).mono ?_
      rintro e w6 ⟨A6, n6, c6, rfl, -, hb6⟩
      rw [HN2.out, HLL.out]
      have HB6 := Lib.hid (HB5.out.trans (hb6.mono HB5.out.size))
      have HTG : Hid (∀ m, Calls Tryz.prog 17 #[.pointer (some ⟨Z.g, 0, none⟩)] (w6.drewN m) fun e w' => e = .returned (.int .u64 (P.tag : Int)) ∧ w' = w6.drewN m) := fun m => (ptag_any Z P (w6.drewN m) (HP1.out.later (below_drewN HB6.out m))).mono (by rintro e w' ⟨h1, h2⟩; exact ⟨h1, h2.symm⟩)
      have dt : w6.cell? ⟨gm, 1, none⟩ = some (.int .u64 (P.tag : Int)) := by rw [(HM1.out.later HB6.out).cell, HCS.out.tag]
      clear hb6 HLL
      go_wp2_with fail
      go_quiet (refine Calls.quiet_of_same (HTG.out _))
      go_wp2_with fail
      go_ret
      exact ⟨rfl, HBF.out _ (below_drewN HB6.out _)⟩
end Go.Proofs.YtildohndbeagaaaGreatDoor
