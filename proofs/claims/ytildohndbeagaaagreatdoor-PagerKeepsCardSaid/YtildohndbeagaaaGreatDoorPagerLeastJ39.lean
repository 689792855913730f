/- What the proof of PagerLeast needs, part 39. -/
import Derived.Test.YtildohndbeagaaaGreatDoorPagerLeastJ2
import Derived.Test.YtildohndbeagaaaGreatDoorPagerLeastJ38
import Derived.Laws.Rows
import Derived.Deep.MidRow

namespace Go.Proofs.YtildohndbeagaaaGreatDoor
open Go Go.RowKit
set_option linter.unusedVariables false

theorem rpgInfo {cs : Array Value} (h : cs.size = 452) : (Tryz.prog.info? 35).map (·.size) = some cs.size := by rw [h]; exact rpagerTy.2
theorem zero13_size : Tryz.zeroCells35.size = 452 := by kernel_rfl
theorem rpgTy {cs : Array Value} (h : cs.size = 452) : StructTy Tryz.prog 35 cs.size := by rw [h]; exact rpagerTy
/-- Two boxes laid at once. -/
theorem two_new (w : World) (cs ds : Array Value) (t : TypeId) :
    Blk ((w.alloc (.cells cs t)).alloc (.cells ds t)) w.heap.size t cs ∧ Blk ((w.alloc (.cells cs t)).alloc (.cells ds t)) (w.heap.size + 1) t ds ∧ Below w.heap.size w ((w.alloc (.cells cs t)).alloc (.cells ds t)) := by
  refine ⟨(Blk.new _ _ _).alloc _, ?_, ((Below.refl _ _).alloc (Nat.le_refl _) _).alloc (by simp) _⟩
  have := Blk.new (w.alloc (.cells cs t)) t ds
  simpa using this
theorem pgWhy_out {x : Int} {b : List UInt8} (h : x < 0 ∨ 90 ≤ x) : pgWhy x b = 131 := by unfold pgWhy; rw [if_pos h]
theorem pgWhy_long {x : Int} {b : List UInt8} (h : ¬ (x < 0 ∨ 90 ≤ x)) (h2 : 2048 < b.length) : pgWhy x b = 132 := by unfold pgWhy; rw [if_neg h, if_pos h2]
theorem pgWhy_ok {x : Int} {b : List UInt8} (h : ¬ (x < 0 ∨ 90 ≤ x)) (h2 : ¬ 2048 < b.length) : pgWhy x b = 0 := by unfold pgWhy; rw [if_neg h, if_neg h2]
theorem Rpg.write_no {R : Rpg} {x : Int} {b : List UInt8} (h : pgWhy x b ≠ 0) : R.write x b = R := by unfold Rpg.write; rw [if_neg h]

set_option maxHeartbeats 4000000 in
set_option maxRecDepth 100000 in
theorem rwrite13_any (R : Rpg) (cs : Array Value) (x : Int) (b : List UInt8) (w : World) (hc : Rc R cs) (hx : InI x) (hbl : b.length ≤ 1099511627776) :
    Calls Tryz.prog 35 #[.agg cs, .int .i64 x, .string (st b)] w fun e w' => ∃ cs', e = .returned (.tuple #[.agg cs', .int .i64 (pgWhy x b : Int)]) ∧ Rc (R.write x b) cs' ∧ Below w.heap.size w w' := by
  obtain ⟨B0, B1, Q⟩ := two_new w cs Tryz.zeroCells35 35
  have HC := Lib.hid hc
  have HS := Lib.hid hc.size
  have H1 := Lib.hid hc.one
  have hu := Tryz.underlying35
  have HB0 := Lib.hid B0
  have HB1 := Lib.hid B1
  have HQ := Lib.hid Q
  clear hc B0 B1 Q
  by_cases hout : x < 0 ∨ 90 ≤ x
  · have HE := Lib.hid (pgWhy_out (b := b) hout)
    have HF : Hid (Blk (((w.alloc (.cells cs 35)).alloc (.cells Tryz.zeroCells35 35)).setRow (w.heap.size + 1) cs) (w.heap.size + 1) 35 cs) := HB1.out.setRow cs
    have HG := Lib.hid (below_setRow HQ.out (show w.heap.size ≤ w.heap.size + 1 by omega) cs)
    by_cases h0 : x < 0
    · clear hout
      go_enter Tryz.func35, Tryz.ntmps35
      go_wp2_with (first | (refine wpList_load_row rfl _ (.tmp 3) rfl w.heap.size rfl _ cs _ _ HB0.out hu rfl (rpgInfo HS.out) ?_) | (refine wpList_store_row rfl _ (.tmp 6) (.tmp 14) rfl (w.heap.size + 1) cs rfl rfl _ Tryz.zeroCells35 HB1.out (rpgInfo HS.out) (by rw [zero13_size, HS.out]) H1.out ?_))
      rw [HE.out, Rpg.write_no (by rw [HE.out]; omega)]
      exact bodyPost_ret (results_cell2 rfl _ _ (w.heap.size + 1) rfl HF.out (rpgTy HS.out)) rfl ⟨cs, rfl, HC.out, HG.out⟩
    · have h9 : 90 ≤ x := by omega
      clear hout
      go_enter Tryz.func35, Tryz.ntmps35
      go_wp2_with (first | (refine wpList_load_row rfl _ (.tmp 3) rfl w.heap.size rfl _ cs _ _ HB0.out hu rfl (rpgInfo HS.out) ?_) | (refine wpList_store_row rfl _ (.tmp 6) (.tmp 14) rfl (w.heap.size + 1) cs rfl rfl _ Tryz.zeroCells35 HB1.out (rpgInfo HS.out) (by rw [zero13_size, HS.out]) H1.out ?_))
      rw [HE.out, Rpg.write_no (by rw [HE.out]; omega)]
      exact bodyPost_ret (results_cell2 rfl _ _ (w.heap.size + 1) rfl HF.out (rpgTy HS.out)) rfl ⟨cs, rfl, HC.out, HG.out⟩
  have h0 : ¬ x < 0 := fun h => hout (.inl h)
  have h9 : ¬ 90 ≤ x := fun h => hout (.inr h)
  by_cases hlong : 2048 < b.length
  · have HE := Lib.hid (pgWhy_long hout hlong)
    have HF : Hid (Blk (((w.alloc (.cells cs 35)).alloc (.cells Tryz.zeroCells35 35)).setRow (w.heap.size + 1) cs) (w.heap.size + 1) 35 cs) := HB1.out.setRow cs
    have HG := Lib.hid (below_setRow HQ.out (show w.heap.size ≤ w.heap.size + 1 by omega) cs)
    clear hout
    go_enter Tryz.func35, Tryz.ntmps35
    go_wp2_with (first | (refine wpList_load_row rfl _ (.tmp 3) rfl w.heap.size rfl _ cs _ _ HB0.out hu rfl (rpgInfo HS.out) ?_) | (refine wpList_store_row rfl _ (.tmp 6) (.tmp 18) rfl (w.heap.size + 1) cs rfl rfl _ Tryz.zeroCells35 HB1.out (rpgInfo HS.out) (by rw [zero13_size, HS.out]) H1.out ?_))
    rw [HE.out, Rpg.write_no (by rw [HE.out]; omega)]
    exact bodyPost_ret (results_cell2 rfl _ _ (w.heap.size + 1) rfl HF.out (rpgTy HS.out)) rfl ⟨cs, rfl, HC.out, HG.out⟩
  · have HE := Lib.hid (pgWhy_ok hout hlong)
    obtain ⟨i, rfl⟩ : ∃ i : Nat, x = (i : Int) := ⟨x.toNat, by omega⟩
    have hi : i < 90 := by omega
    have HR : Hid (R.write (i : Int) b = R.put i b) := by rw [Hid]; unfold Rpg.write; rw [if_pos HE.out]; rfl
    have HC3 : Hid (Rc (R.put i b) _) := HC.out.set3 hi true true b
    have hnew := ((HB0.out.put (92 + i) (.bool true)).put (182 + i) (.bool true)).put (362 + i) (.string (st b))
    have hfar := ((HB1.out.far (p := ⟨w.heap.size, 92 + i, none⟩) (show w.heap.size + 1 ≠ w.heap.size by omega) (.bool true)).far (p := ⟨w.heap.size, 182 + i, none⟩) (show w.heap.size + 1 ≠ w.heap.size by omega) (.bool true)).far (p := ⟨w.heap.size, 362 + i, none⟩) (show w.heap.size + 1 ≠ w.heap.size by omega) (.string (st b))
    have hbel := ((HQ.out.setCell (p := ⟨w.heap.size, 92 + i, none⟩) (Nat.le_refl _) (.bool true)).setCell (p := ⟨w.heap.size, 182 + i, none⟩) (Nat.le_refl _) (.bool true)).setCell (p := ⟨w.heap.size, 362 + i, none⟩) (Nat.le_refl _) (.string (st b))
    obtain ⟨ds, hds⟩ : ∃ ds, ((cs.setIfInBounds (92 + i) (.bool true)).setIfInBounds (182 + i) (.bool true)).setIfInBounds (362 + i) (.string (st b)) = ds := ⟨_, rfl⟩
    have c1 : ((w.alloc (.cells cs 35)).alloc (.cells Tryz.zeroCells35 35)).cell? ⟨w.heap.size, 92 + i, none⟩ = some (.bool (R.has i)) := by rw [HB0.out.cell, HC.out.h i hi]
    have c2 : ((w.alloc (.cells cs 35)).alloc (.cells Tryz.zeroCells35 35)).cell? ⟨w.heap.size, 182 + i, none⟩ = some (.bool (R.wrote i)) := by rw [HB0.out.cell, HC.out.wr i hi]
    have c3 : ((w.alloc (.cells cs 35)).alloc (.cells Tryz.zeroCells35 35)).cell? ⟨w.heap.size, 362 + i, none⟩ = some (.string (st (R.now i))) := by rw [HB0.out.cell, HC.out.now i hi]
    have f1 := HB0.out.free (92 + i)
    have f2 := HB0.out.free (182 + i)
    have f3 := HB0.out.free (362 + i)
    rw [hds] at hnew HC3
    have HS3 := Lib.hid HC3.out.size
    have H13 := Lib.hid HC3.out.one
    have HNEW := Lib.hid hnew
    have HFAR := Lib.hid hfar
    have HBEL := Lib.hid hbel
    have hi0 : (0 : Int) ≤ (i : Int) := by omega
    have hi9 : (i : Int) < 90 := by omega
    clear hds hnew hfar hbel hout
    go_enter Tryz.func35, Tryz.ntmps35
    go_upto_region 5 with (fail)
    generalize hW : ((w.alloc (.cells cs 35)).alloc (.cells Tryz.zeroCells35 35)) = W at *
    clear hW
    go_wp2_with (first | (refine wpList_load_row rfl _ (.tmp 3) rfl w.heap.size rfl _ ds _ _ HNEW.out hu rfl (rpgInfo HS3.out) ?_) | (refine wpList_store_row rfl _ (.tmp 6) (.tmp 29) rfl (w.heap.size + 1) ds rfl rfl _ Tryz.zeroCells35 HFAR.out (rpgInfo HS3.out) (by rw [zero13_size, HS3.out]) H13.out ?_))
    rw [HE.out, HR.out]
    exact bodyPost_ret (results_cell2 rfl _ _ (w.heap.size + 1) rfl (HFAR.out.setRow ds) (rpgTy HS3.out)) rfl ⟨ds, rfl, HC3.out, below_setRow HBEL.out (show w.heap.size ≤ w.heap.size + 1 by omega) ds⟩
end Go.Proofs.YtildohndbeagaaaGreatDoor
