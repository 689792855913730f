/- What the proof of PagerLeast needs, part 40. -/
import Derived.Test.YtildohndbeagaaaGreatDoorPagerLeastJ39

namespace Go.Proofs.YtildohndbeagaaaGreatDoor
open Go Go.RowKit
set_option linter.unusedVariables false

def Rpg.why (R : Rpg) (x : Int) : Int := if R.inn x then 0 else 131
theorem Rpg.inn_at {R : Rpg} {i : Nat} (hi : i < 90) : R.inn (i : Int) = R.has i := by
  unfold Rpg.inn
  rw [decide_eq_true (by omega), Bool.true_and]
  rfl
theorem Rpg.inn_out {R : Rpg} {x : Int} (h : x < 0 ∨ 90 ≤ x) : R.inn x = false := by
  unfold Rpg.inn
  rw [decide_eq_false (by omega), Bool.false_and]
theorem Blk.farRow {w : World} {g k : Nat} {t : TypeId} {cs : Array Value} (h : Blk w g t cs) (hk : g ≠ k) (ds : Array Value) : Blk (w.setRow k ds) g t cs := by
  unfold Blk at h ⊢
  rw [setRow_other w k g ds hk]
  exact h

set_option maxHeartbeats 8000000 in
set_option maxRecDepth 100000 in
theorem rfree13_any (R : Rpg) (cs : Array Value) (x : Int) (w : World) (hc : Rc R cs) (hx : InI x) :
    Calls Tryz.prog 36 #[.agg cs, .int .i64 x] w fun e w' => ∃ cs', e = .returned (.tuple #[.agg cs', .int .i64 (R.why x)]) ∧ Rc (R.free x) cs' ∧ Below w.heap.size w w' := by
  obtain ⟨B0, B1, Q⟩ := two_new w cs Tryz.zeroCells35 35
  have HC := Lib.hid hc
  have HS := Lib.hid hc.size
  have H1 := Lib.hid hc.one
  have hu := Tryz.underlying35
  have HB0 := Lib.hid B0
  have HB1 := Lib.hid B1
  have HQ := Lib.hid Q
  clear hc B0 B1 Q
  have HNO : Hid (R.inn x = false → R.why x = 131 ∧ Rc (R.free x) cs) := fun h => by
    unfold Rpg.why Rpg.free
    rw [h]
    exact ⟨rfl, HC.out⟩
  by_cases hout : x < 0 ∨ 90 ≤ x
  · have HE := Lib.hid (HNO.out (Rpg.inn_out hout))
    have HF : Hid (Blk (((w.alloc (.cells cs 35)).alloc (.cells Tryz.zeroCells35 35)).setRow (w.heap.size + 1) cs) (w.heap.size + 1) 35 cs) := HB1.out.setRow cs
    have HG := Lib.hid (below_setRow HQ.out (show w.heap.size ≤ w.heap.size + 1 by omega) cs)
    rcases Decidable.em (x < 0) with h0 | h0
    case' inr => have h9 : 90 ≤ x := by omega
    all_goals
      clear hout
      go_enter Tryz.func36, Tryz.ntmps36
      go_wp2_with (first | (refine wpList_load_row rfl _ (.tmp 2) rfl w.heap.size rfl _ cs _ _ HB0.out hu rfl (rpgInfo HS.out) ?_) | (refine wpList_store_row rfl _ (.tmp 4) (.tmp 19) rfl (w.heap.size + 1) cs rfl rfl _ Tryz.zeroCells35 HB1.out (rpgInfo HS.out) (by rw [zero13_size, HS.out]) H1.out ?_))
      rw [HE.out.1]
      exact bodyPost_ret (results_cell2 rfl _ _ (w.heap.size + 1) rfl HF.out (rpgTy HS.out)) rfl ⟨cs, rfl, HE.out.2, HG.out⟩
  have h0 : ¬ x < 0 := fun h => hout (.inl h)
  have h9 : ¬ 90 ≤ x := fun h => hout (.inr h)
  obtain ⟨i, rfl⟩ : ∃ i : Nat, x = (i : Int) := ⟨x.toNat, by omega⟩
  have hi : i < 90 := by omega
  have hi0 : (0 : Int) ≤ (i : Int) := by omega
  have hi9 : (i : Int) < 90 := by omega
  have c1 : ((w.alloc (.cells cs 35)).alloc (.cells Tryz.zeroCells35 35)).cell? ⟨w.heap.size, 92 + i, none⟩ = some (.bool (R.has i)) := by rw [HB0.out.cell, HC.out.h i hi]
  have c2 : ((w.alloc (.cells cs 35)).alloc (.cells Tryz.zeroCells35 35)).cell? ⟨w.heap.size, 182 + i, none⟩ = some (.bool (R.wrote i)) := by rw [HB0.out.cell, HC.out.wr i hi]
  have c3 : ((w.alloc (.cells cs 35)).alloc (.cells Tryz.zeroCells35 35)).cell? ⟨w.heap.size, 362 + i, none⟩ = some (.string (st (R.now i))) := by rw [HB0.out.cell, HC.out.now i hi]
  have f1 := HB0.out.free (92 + i)
  have f2 := HB0.out.free (182 + i)
  have f3 := HB0.out.free (362 + i)
  clear hout
  go_enter Tryz.func36, Tryz.ntmps36
  go_upto_region 1 with (fail)
  generalize hW : ((w.alloc (.cells cs 35)).alloc (.cells Tryz.zeroCells35 35)) = W at *
  clear hW
  cases hh : R.has i with
  | false =>
    rw [hh] at c1
    have HE := Lib.hid (HNO.out ((Rpg.inn_at hi).trans hh))
    have HF : Hid (Blk (W.setRow (w.heap.size + 1) cs) (w.heap.size + 1) 35 cs) := HB1.out.setRow cs
    have HG := Lib.hid (below_setRow HQ.out (show w.heap.size ≤ w.heap.size + 1 by omega) cs)
    clear hh
    go_wp2_with (first | (refine wpList_load_row rfl _ (.tmp 2) rfl w.heap.size rfl _ cs _ _ HB0.out hu rfl (rpgInfo HS.out) ?_) | (refine wpList_store_row rfl _ (.tmp 4) (.tmp 19) rfl (w.heap.size + 1) cs rfl rfl _ Tryz.zeroCells35 HB1.out (rpgInfo HS.out) (by rw [zero13_size, HS.out]) H1.out ?_))
    rw [HE.out.1]
    exact bodyPost_ret (results_cell2 rfl _ _ (w.heap.size + 1) rfl HF.out (rpgTy HS.out)) rfl ⟨cs, rfl, HE.out.2, HG.out⟩
  | true =>
    rw [hh] at c1
    have HI : Hid (R.inn (i : Int) = true) := (Rpg.inn_at hi).trans hh
    have HR : Hid (R.free (i : Int) = R.away i) := by rw [Hid]; unfold Rpg.free; rw [HI.out]; rfl
    have HC3 : Hid (Rc (R.away i) _) := HC.out.set3 hi false false []
    have hnew := ((HB0.out.put (92 + i) (.bool false)).put (182 + i) (.bool false)).put (362 + i) (.string ⟨#[]⟩)
    have hfar := ((HB1.out.far (p := ⟨w.heap.size, 92 + i, none⟩) (show w.heap.size + 1 ≠ w.heap.size by omega) (.bool false)).far (p := ⟨w.heap.size, 182 + i, none⟩) (show w.heap.size + 1 ≠ w.heap.size by omega) (.bool false)).far (p := ⟨w.heap.size, 362 + i, none⟩) (show w.heap.size + 1 ≠ w.heap.size by omega) (.string ⟨#[]⟩)
    have hbel := ((HQ.out.setCell (p := ⟨w.heap.size, 92 + i, none⟩) (Nat.le_refl _) (.bool false)).setCell (p := ⟨w.heap.size, 182 + i, none⟩) (Nat.le_refl _) (.bool false)).setCell (p := ⟨w.heap.size, 362 + i, none⟩) (Nat.le_refl _) (.string ⟨#[]⟩)
    obtain ⟨ds, hds⟩ : ∃ ds, ((cs.setIfInBounds (92 + i) (.bool false)).setIfInBounds (182 + i) (.bool false)).setIfInBounds (362 + i) (.string ⟨#[]⟩) = ds := ⟨_, rfl⟩
    have HC3 : Hid (Rc (R.away i) ds) := by rw [← hds]; exact HC3.out
    rw [hds] at hnew
    have HS3 := Lib.hid HC3.out.size
    have H13 := Lib.hid HC3.out.one
    have HNEW := Lib.hid hnew
    have HFAR := Lib.hid hfar
    have HBEL := Lib.hid hbel
    clear hds hnew hfar hbel hh
    go_wp2_with (first | (refine wpList_load_row rfl _ (.tmp 2) rfl w.heap.size rfl _ ds _ _ HNEW.out hu rfl (rpgInfo HS3.out) ?_) | (refine wpList_store_row rfl _ (.tmp 4) (.tmp 29) rfl (w.heap.size + 1) ds rfl rfl _ Tryz.zeroCells35 HFAR.out (rpgInfo HS3.out) (by rw [zero13_size, HS3.out]) H13.out ?_))
    have HWY : Hid (R.why (i : Int) = 0) := by rw [Hid]; unfold Rpg.why; rw [HI.out]; rfl
    rw [HWY.out, HR.out]
    exact bodyPost_ret (results_cell2 rfl _ _ (w.heap.size + 1) rfl (HFAR.out.setRow ds) (rpgTy HS3.out)) rfl ⟨ds, rfl, HC3.out, below_setRow HBEL.out (show w.heap.size ≤ w.heap.size + 1 by omega) ds⟩

theorem Rpg.least_at {R : Rpg} {i : Nat} (hi : i < 90) (hall : ∀ j, j < i → R.has j = true) (h : R.has i = false) : R.least = some i := by
  unfold Rpg.least
  rw [show 90 = i + ((89 - i) + 1) by omega, List.range_eq_range', ← List.range'_append_1, List.find?_append, Nat.zero_add, List.range'_succ]
  have h1 : (List.range' 0 i).find? (fun i => !R.has i) = none := by
    rw [List.find?_eq_none]
    intro j hj
    rw [List.mem_range'_1] at hj
    rw [hall j (by omega)]
    simp
  rw [h1, List.find?_cons, h]
  rfl
theorem Rpg.least_none {R : Rpg} (hall : ∀ j, j < 90 → R.has j = true) : R.least = none := by
  unfold Rpg.least
  rw [List.find?_eq_none]
  intro j hj
  rw [hall j (List.mem_range.1 hj)]
  simp

set_option maxHeartbeats 8000000 in
set_option maxRecDepth 100000 in
theorem ralloc13_any (R : Rpg) (cs : Array Value) (b : List UInt8) (w : World) (hc : Rc R cs) (hbl : b.length ≤ 1099511627776) :
    Calls Tryz.prog 38 #[.agg cs, .string (st b)] w fun e w' => ∃ cs', e = .returned (.tuple #[.agg cs', .int .i64 ((R.alloc b).2.1 : Int), .int .i64 ((R.alloc b).2.2 : Int)]) ∧ Rc (R.alloc b).1 cs' ∧ Below w.heap.size w w' := by
  obtain ⟨B0, B1, Q⟩ := two_new w cs Tryz.zeroCells35 35
  have HC := Lib.hid hc
  have HS := Lib.hid hc.size
  have H1 := Lib.hid hc.one
  have hu := Tryz.underlying35
  have HB0 := Lib.hid B0
  have HB1 := Lib.hid B1
  have HQ := Lib.hid Q
  clear hc B0 B1 Q
  go_enter Tryz.func38, Tryz.ntmps38
  go_upto_region 1 with (fail)
  generalize hW : ((w.alloc (.cells cs 35)).alloc (.cells Tryz.zeroCells35 35)) = W at *
  clear hW
  have HF : Hid (Blk (W.setRow (w.heap.size + 1) cs) (w.heap.size + 1) 35 cs) := HB1.out.setRow cs
  have HG := Lib.hid (below_setRow HQ.out (show w.heap.size ≤ w.heap.size + 1 by omega) cs)
  by_cases hlong : 2048 < b.length
  · have HA : Hid (R.alloc b = (R, 0, 132)) := by rw [Hid]; unfold Rpg.alloc; rw [if_pos hlong]
    go_wp2_with (first | (refine wpList_load_row rfl _ (.tmp 2) rfl w.heap.size rfl _ cs _ _ HB0.out hu rfl (rpgInfo HS.out) ?_) | (refine wpList_store_row rfl _ (.tmp 4) (.tmp 13) rfl (w.heap.size + 1) cs rfl rfl _ Tryz.zeroCells35 HB1.out (rpgInfo HS.out) (by rw [zero13_size, HS.out]) H1.out ?_))
    rw [HA.out]
    exact bodyPost_ret (results_cell3 rfl _ _ (w.heap.size + 1) rfl HF.out (rpgTy HS.out)) rfl ⟨cs, rfl, HC.out, HG.out⟩
  have HA : Hid (∀ o, R.least = o → R.alloc b = match o with | some i => (R.put i b, i, 0) | none => (R, 0, 133)) := fun o ho => by
    unfold Rpg.alloc
    rw [if_neg hlong, ho]
    cases o <;> rfl
  have HPW : Hid (∀ i : Nat, i < 90 → pgWhy (i : Int) b = 0 ∧ R.write (i : Int) b = R.put i b) := fun i hi => by
    have h := pgWhy_ok (x := (i : Int)) (b := b) (by omega) hlong
    refine ⟨h, ?_⟩
    unfold Rpg.write
    rw [if_pos h]
    rfl
  go_wp2_with fail
  go_loop [7] (fun iv => ∃ i : Nat, iv = .int .i64 (i : Int) ∧ i ≤ 90 ∧ Hid (∀ j, j < i → R.has j = true)) (fun iv => 90 - (intOf iv).toNat)
  case atStart => exact ⟨0, rfl, by omega, fun j hj => by omega⟩
  case round =>
    obtain ⟨i, rfl, hi, hall⟩ := hrel
    by_cases hi9 : i < 90
    · have hi0 : (0 : Int) ≤ (i : Int) := by omega
      have hi2 : (i : Int) < 90 := by omega
      have c1 : W.cell? ⟨w.heap.size, 92 + i, none⟩ = some (.bool (R.has i)) := by rw [HB0.out.cell, HC.out.h i hi9]
      cases hh : R.has i with
      | true =>
        rw [hh] at c1
        have HALL : Hid (∀ j, j < i + 1 → R.has j = true) := fun j hj => by
          rcases Nat.lt_or_ge j i with h | h
          · exact hall.out j h
          · obtain rfl : j = i := by omega
            exact hh
        clear hh
        go_wp2_with fail
        go_round
        case rel => exact ⟨i + 1, by go_num, by omega, HALL⟩
        case measure => simp [intOf]; omega
      | false =>
        rw [hh] at c1
        have HA2 := Lib.hid (HA.out _ (Rpg.least_at hi9 hall.out hh))
        obtain ⟨hw1, hw2⟩ := HPW.out i hi9
        have HW1 := Lib.hid hw1
        have HW2 := Lib.hid hw2
        clear hw1 hw2 hh
        go_wp2_with (refine wpList_load_row rfl _ (.tmp 2) rfl w.heap.size rfl _ cs _ _ HB0.out hu rfl (rpgInfo HS.out) ?_)
        refine (rwrite13_any R cs (i : Int) b W HC.out (by unfold InI; omega) hbl).mono ?_
        rintro e w1 ⟨ds, rfl, hcd, hb1⟩
        rw [HW1.out]
        rw [HW2.out] at hcd
        have HCD := Lib.hid hcd
        have HSD := Lib.hid hcd.size
        have H1D := Lib.hid hcd.one
        have b9 := HB1.out.later hb1
        have hlt9 := b9.lt
        have bz := Blk.new w1 35 Tryz.zeroCells35
        have HZ := Lib.hid bz
        have HN := Lib.hid (bz.setRow ds)
        have HR := Lib.hid ((b9.alloc (.cells Tryz.zeroCells35 35)).farRow (show w.heap.size + 1 ≠ w1.heap.size by omega) ds)
        have hq1 := HQ.out.trans (hb1.mono HQ.out.size)
        have HQ2 := Lib.hid (below_setRow (hq1.alloc hq1.size (.cells Tryz.zeroCells35 35)) hq1.size ds)
        clear hcd b9 bz hq1 c1 hb1
        go_wp2_with (first
          | (refine wpList_store_row rfl _ (.tmp 8) (.tmp 28) rfl w1.heap.size ds rfl rfl _ Tryz.zeroCells35 HZ.out (rpgInfo HSD.out) (by rw [zero13_size, HSD.out]) H1D.out ?_)
          | (refine wpList_load_row rfl _ (.tmp 8) rfl w1.heap.size rfl _ ds _ _ HN.out hu rfl (rpgInfo HSD.out) ?_)
          | (refine wpList_store_row rfl _ (.tmp 4) (.tmp 30) rfl (w.heap.size + 1) ds rfl rfl _ Tryz.zeroCells35 HR.out (rpgInfo HSD.out) (by rw [zero13_size, HSD.out]) H1D.out ?_))
        rw [HA2.out]
        exact bodyPost_ret (results_cell3 rfl _ _ (w.heap.size + 1) rfl (HR.out.setRow ds) (rpgTy HSD.out)) rfl ⟨ds, rfl, HCD.out, below_setRow HQ2.out (show w.heap.size ≤ w.heap.size + 1 by omega) ds⟩
    · obtain rfl : i = 90 := by omega
      have HA2 := Lib.hid (HA.out _ (Rpg.least_none hall.out))
      go_wp2_with (first | (refine wpList_load_row rfl _ (.tmp 2) rfl w.heap.size rfl _ cs _ _ HB0.out hu rfl (rpgInfo HS.out) ?_) | (refine wpList_store_row rfl _ (.tmp 4) (.tmp 33) rfl (w.heap.size + 1) cs rfl rfl _ Tryz.zeroCells35 HB1.out (rpgInfo HS.out) (by rw [zero13_size, HS.out]) H1.out ?_))
      rw [HA2.out]
      exact bodyPost_ret (results_cell3 rfl _ _ (w.heap.size + 1) rfl HF.out (rpgTy HS.out)) rfl ⟨cs, rfl, HC.out, HG.out⟩
end Go.Proofs.YtildohndbeagaaaGreatDoor
