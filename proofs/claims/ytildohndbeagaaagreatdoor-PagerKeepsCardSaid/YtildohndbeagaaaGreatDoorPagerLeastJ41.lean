/- What the proof of PagerLeast needs, part 41. -/
import Derived.Test.YtildohndbeagaaaGreatDoorPagerLeastJ40

namespace Go.Proofs.YtildohndbeagaaaGreatDoor
open Go Go.RowKit
set_option linter.unusedVariables false

/-- Some cells of a block are put anew. -/
theorem Blk.sets {g : Nat} {t : TypeId} : ∀ (vs : List Value) (o : Nat) {w : World} {cs : Array Value}, Blk w g t cs → o + vs.length ≤ cs.size → ∃ ds, Blk (w.setCells g o vs) g t ds ∧ ds.size = cs.size ∧ (∀ i, i < o ∨ o + vs.length ≤ i → ds[i]? = cs[i]?) ∧ ∀ j, j < vs.length → ds[o + j]? = vs[j]?
  | [], o, w, cs, h, _ => ⟨cs, h, rfl, fun _ _ => rfl, fun j hj => by simp at hj⟩
  | v :: r, o, w, cs, h, hl => by
    rw [List.length_cons] at hl
    obtain ⟨ds, h1, h2, h3, h4⟩ := Blk.sets r (o + 1) (h.put o v) (by rw [Array.size_setIfInBounds]; omega)
    refine ⟨ds, h1, by rw [h2, Array.size_setIfInBounds], fun i hi => ?_, fun j hj => ?_⟩
    · rw [List.length_cons] at hi
      rw [h3 i (by omega), Array.getElem?_setIfInBounds_ne (by omega)]
    · rcases j with _ | j
      · rw [Nat.add_zero, h3 o (by omega), Array.getElem?_setIfInBounds_self, if_pos (by omega)]
        rfl
      · rw [List.length_cons] at hj
        have := h4 j (by omega)
        rw [show o + (j + 1) = o + 1 + j by omega, this]
        rfl
theorem Blk.farSets {g k : Nat} {t : TypeId} {cs : Array Value} (hk : g ≠ k) : ∀ (vs : List Value) (o : Nat) {w : World}, Blk w g t cs → Blk (w.setCells k o vs) g t cs
  | [], _, _, h => h
  | v :: r, o, w, h => Blk.farSets hk r (o + 1) (h.far (p := ⟨k, o, none⟩) hk v)
theorem below_sets {B k : Nat} {w0 : World} (hk : B ≤ k) : ∀ (vs : List Value) (o : Nat) {w : World}, Below B w0 w → Below B w0 (w.setCells k o vs)
  | [], _, _, h => h
  | v :: r, o, w, h => below_sets hk r (o + 1) (h.setCell (p := ⟨k, o, none⟩) hk v)
theorem Blk.rangeAt {w : World} {g : Nat} {t : TypeId} {cs : Array Value} (h : Blk w g t cs) {o : Nat} {vs : List Value} (hv : ∀ j, j < vs.length → cs[o + j]? = vs[j]?) : w.rangeAt g o vs := fun j v hj => by
  have hl := (List.getElem?_eq_some_iff.1 hj).1
  rw [h.cell, hv j hl, hj]
theorem Blk.there {w : World} {g : Nat} {t : TypeId} {cs : Array Value} (h : Blk w g t cs) {o n : Nat} (hn : o + n ≤ cs.size) : w.there g o n := fun j hj => by
  refine ⟨?_, h.free _⟩
  rw [h.cell, Array.getElem?_eq_getElem (by omega)]
  rfl
def flagsV (f : Nat → Bool) : List Value := (List.range 90).map fun i => .bool (f i)
def textsV (f : Nat → List UInt8) : List Value := (List.range 90).map fun i => .string (st (f i))
theorem flagsV_len (f : Nat → Bool) : (flagsV f).length = 90 := by simp [flagsV]
theorem textsV_len (f : Nat → List UInt8) : (textsV f).length = 90 := by simp [textsV]
theorem flagsV_at {f : Nat → Bool} {i : Nat} (h : i < 90) : (flagsV f)[i]? = some (.bool (f i)) := by simp [flagsV, h]
theorem textsV_at {f : Nat → List UInt8} {i : Nat} (h : i < 90) : (textsV f)[i]? = some (.string (st (f i))) := by simp [textsV, h]
theorem flagsV_one (f : Nat → Bool) : (flagsV f).toArray.all (·.oneCell') = true := all_oneCell_toArray fun v hv => by
  obtain ⟨i, _, rfl⟩ := List.mem_map.1 hv
  rfl
theorem textsV_one (f : Nat → List UInt8) : (textsV f).toArray.all (·.oneCell') = true := all_oneCell_toArray fun v hv => by
  obtain ⟨i, _, rfl⟩ := List.mem_map.1 hv
  rfl
theorem zeroFlags : Tryz.zeroCells32 = Array.replicate 90 (.bool false) := by kernel_rfl
theorem zeroFlags_size : Tryz.zeroCells32.size = 90 := by rw [zeroFlags]; simp
theorem zeroFlags_one : Tryz.zeroCells32.all (·.oneCell') = true := by kernel_rfl
theorem zeroFlags_at {i : Nat} (h : i < 90) : Tryz.zeroCells32.toList[i]? = some (.bool false) := by rw [zeroFlags, Array.toList_replicate, List.getElem?_replicate, if_pos h]
theorem info_flags : (Tryz.prog.info? 32).map (·.size) = some 90 := by kernel_rfl
theorem info_texts : (Tryz.prog.info? 33).map (·.size) = some 90 := by kernel_rfl

set_option maxHeartbeats 4000000 in
set_option maxRecDepth 100000 in
theorem rfull13_any (R : Rpg) (cs : Array Value) (w : World) (hc : Rc R cs) (hp0 : 0 ≤ R.places) (hp1 : R.places ≤ 1000000) :
    Calls Tryz.prog 40 #[.agg cs] w fun e w' => e = .returned (.bool R.full) ∧ Below w.heap.size w w' := by
  have B0 := Blk.new w 35 cs
  have Q := (Below.refl w.heap.size w).alloc (Nat.le_refl _) (.cells cs 35)
  have HC := Lib.hid hc
  have HB0 := Lib.hid B0
  have HQ := Lib.hid Q
  clear hc B0 Q
  go_enter Tryz.func40, Tryz.ntmps40
  go_upto_region 1 with (fail)
  generalize hW : w.alloc (.cells cs 35) = W at *
  clear hW
  go_wp2_with fail
  go_loop [3, 4, 5] (fun ov wv iv => ∃ i : Nat, iv = .int .i64 (i : Int) ∧ i ≤ 90 ∧ ov = .int .i64 (Rpg.cnt R.oldHas i : Int) ∧ wv = .int .i64 (Rpg.cnt R.wrote i : Int)) (fun _ _ iv => 90 - (intOf iv).toNat)
  case atStart => exact ⟨0, rfl, by omega, rfl, rfl⟩
  case round =>
    obtain ⟨i, rfl, hi, rfl, rfl⟩ := hrel
    have hl1 := Rpg.cnt_le R.oldHas i
    have hl2 := Rpg.cnt_le R.wrote i
    by_cases hi9 : i < 90
    · have hi0 : (0 : Int) ≤ (i : Int) := by omega
      have hi2 : (i : Int) < 90 := by omega
      have HS1 := Lib.hid (Rpg.cnt_succ R.oldHas i)
      have HS2 := Lib.hid (Rpg.cnt_succ R.wrote i)
      have c1 : W.cell? ⟨w.heap.size, 2 + i, none⟩ = some (.bool (R.oldHas i)) := by rw [HB0.out.cell, HC.out.oh i hi9]
      have c2 : W.cell? ⟨w.heap.size, 182 + i, none⟩ = some (.bool (R.wrote i)) := by rw [HB0.out.cell, HC.out.wr i hi9]
      generalize Rpg.cnt R.oldHas i = m1 at *
      generalize Rpg.cnt R.wrote i = m2 at *
      generalize R.oldHas i = b1 at *
      generalize R.wrote i = b2 at *
      cases b1 <;> cases b2
      all_goals
        go_wp2_with fail
        go_round
        case rel => exact ⟨i + 1, by go_num, by omega, by rw [HS1.out]; simp, by rw [HS2.out]; simp⟩
        case measure => simp [intOf]; omega
    · obtain rfl : i = 90 := by omega
      have c0 : W.cell? ⟨w.heap.size, 0, none⟩ = some (.int .i64 R.places) := by rw [HB0.out.cell, HC.out.places]
      have HF : Hid (R.full = decide (R.places - (Rpg.cnt R.oldHas 90 : Int) < (Rpg.cnt R.wrote 90 : Int))) := rfl
      generalize Rpg.cnt R.oldHas 90 = m1 at *
      generalize Rpg.cnt R.wrote 90 = m2 at *
      generalize R.places = pl at *
      have hw1 : IntKind.i64.wrap (pl - (m1 : Int)) = pl - (m1 : Int) := IntWalk.i64_in _ (by omega)
      go_wp2_with fail
      go_ret
      exact ⟨by rw [HF.out]; rfl, HQ.out⟩

def Rpg.cWhy (R : Rpg) : Int := if R.full then 133 else 0
set_option maxHeartbeats 2000000 in
set_option maxRecDepth 100000 in
theorem rcommit13_any (R : Rpg) (cs : Array Value) (tag : Nat) (w : World) (hc : Rc R cs) (hp0 : 0 ≤ R.places) (hp1 : R.places ≤ 1000000) :
    Calls Tryz.prog 22 #[.agg cs, .int .u64 (tag : Int)] w fun e w' => ∃ cs', e = .returned (.tuple #[.agg cs', .int .i64 R.cWhy]) ∧ Rc (R.commit tag) cs' ∧ Below w.heap.size w w' := by
  obtain ⟨B0, B1, Q⟩ := two_new w cs Tryz.zeroCells35 35
  have HC := Lib.hid hc
  have HS := Lib.hid hc.size
  have H1 := Lib.hid hc.one
  have hu := Tryz.underlying35
  have hu1 := Tryz.underlying32
  have hu2 := Tryz.underlying33
  have HB0 := Lib.hid B0
  have HB1 := Lib.hid B1
  have HQ := Lib.hid Q
  have HP := Lib.hid hp0
  have HP1 := Lib.hid hp1
  clear hc B0 B1 Q hp0 hp1
  go_enter Tryz.func22, Tryz.ntmps22
  go_upto_region 1 with (fail)
  generalize hW : ((w.alloc (.cells cs 35)).alloc (.cells Tryz.zeroCells35 35)) = W at *
  clear hW
  go_wp2_with (refine wpList_load_row rfl _ (.tmp 2) rfl w.heap.size rfl _ cs _ _ HB0.out hu rfl (rpgInfo HS.out) ?_)
  refine (rfull13_any R cs W HC.out HP.out HP1.out).mono ?_
  rintro e w1 ⟨rfl, hb1⟩
  have HQ1 := Lib.hid (HQ.out.trans (hb1.mono HQ.out.size))
  have HB01 := Lib.hid (HB0.out.later hb1)
  have HB11 := Lib.hid (HB1.out.later hb1)
  clear hb1
  cases hf : R.full with
  | true =>
    have HW : Hid (R.cWhy = 133 ∧ R.commit tag = R) := by rw [Hid]; unfold Rpg.cWhy Rpg.commit; rw [hf]; exact ⟨rfl, rfl⟩
    have HF : Hid (Blk (w1.setRow (w.heap.size + 1) cs) (w.heap.size + 1) 35 cs) := HB11.out.setRow cs
    have HG := Lib.hid (below_setRow HQ1.out (show w.heap.size ≤ w.heap.size + 1 by omega) cs)
    clear hf
    go_wp2_with (first | (refine wpList_load_row rfl _ (.tmp 2) rfl w.heap.size rfl _ cs _ _ HB01.out hu rfl (rpgInfo HS.out) ?_) | (refine wpList_store_row rfl _ (.tmp 4) (.tmp 8) rfl (w.heap.size + 1) cs rfl rfl _ Tryz.zeroCells35 HB11.out (rpgInfo HS.out) (by rw [zero13_size, HS.out]) H1.out ?_))
    rw [HW.out.1, HW.out.2]
    exact bodyPost_ret (results_cell2 rfl _ _ (w.heap.size + 1) rfl HF.out (rpgTy HS.out)) rfl ⟨cs, rfl, HC.out, HG.out⟩
  | false =>
    have HW : Hid (R.cWhy = 0 ∧ R.commit tag = R.kept tag) := by rw [Hid]; unfold Rpg.cWhy Rpg.commit; rw [hf]; exact ⟨rfl, rfl⟩
    obtain ⟨F1, hF1⟩ : ∃ F, flagsV R.has = F := ⟨_, rfl⟩
    obtain ⟨F2, hF2⟩ : ∃ F, textsV R.now = F := ⟨_, rfl⟩
    obtain ⟨F3, hF3⟩ : ∃ F, Tryz.zeroCells32.toList = F := ⟨_, rfl⟩
    have HL1 : Hid (F1.length = 90 ∧ F1.toArray.size = 90 ∧ F1.toArray.all (·.oneCell') = true) := by rw [← hF1]; exact ⟨flagsV_len _, by rw [List.size_toArray, flagsV_len], flagsV_one _⟩
    have HL2 : Hid (F2.length = 90 ∧ F2.toArray.size = 90 ∧ F2.toArray.all (·.oneCell') = true) := by rw [← hF2]; exact ⟨textsV_len _, by rw [List.size_toArray, textsV_len], textsV_one _⟩
    have HL3 : Hid (F3.length = 90 ∧ Tryz.zeroCells32.size = 90 ∧ Tryz.zeroCells32.all (·.oneCell') = true) := by rw [← hF3]; exact ⟨by rw [Array.length_toList, zeroFlags_size], zeroFlags_size, zeroFlags_one⟩
    have A1 : ∀ i, i < 90 → F1[i]? = some (.bool (R.has i)) := fun i hi => by rw [← hF1]; exact flagsV_at hi
    have A2 : ∀ i, i < 90 → F2[i]? = some (.string (st (R.now i))) := fun i hi => by rw [← hF2]; exact textsV_at hi
    have A3 : ∀ i, i < 90 → F3[i]? = some (.bool false) := fun i hi => by rw [← hF3]; exact zeroFlags_at hi
    have HF3 := Lib.hid hF3
    clear hF1 hF2 hF3
    have hl1 := HL1.out.1
    have hl2 := HL2.out.1
    have hl3 := HL3.out.1
    have hs := HS.out
    have q1 := HB01.out.put 1 (.int .u64 (tag : Int))
    obtain ⟨d2, q2, s2, o2, i2⟩ := Blk.sets F1 2 q1 (by rw [hl1, Array.size_setIfInBounds]; omega)
    rw [Array.size_setIfInBounds] at s2
    obtain ⟨d3, q3, s3, o3, i3⟩ := Blk.sets F2 272 q2 (by rw [hl2]; omega)
    obtain ⟨d4, q4, s4, o4, i4⟩ := Blk.sets F3 182 q3 (by rw [hl3]; omega)
    rw [hl1] at o2 i2
    rw [hl2] at o3 i3
    rw [hl3] at o4 i4
    have hc4 : Rc (R.kept tag) d4 := by
      have keep : ∀ i, i ≠ 1 → (i < 2 ∨ 92 ≤ i) → (i < 272 ∨ 362 ≤ i) → (i < 182 ∨ 272 ≤ i) → d4[i]? = cs[i]? := fun i h1 h2 h3 h4 => by
        rw [o4 i (by omega), o3 i (by omega), o2 i (by omega), Array.getElem?_setIfInBounds_ne (by omega)]
      refine ⟨by rw [s4, s3, s2, hs], ?_, ?_, fun i hi => ?_, fun i hi => ?_, fun i hi => ?_, fun i hi => ?_, fun i hi => ?_⟩
      · rw [keep 0 (by omega) (by omega) (by omega) (by omega)]; exact HC.out.places
      · rw [o4 1 (by omega), o3 1 (by omega), o2 1 (by omega), Array.getElem?_setIfInBounds_self, if_pos (by omega)]; rfl
      · rw [o4 _ (by omega), o3 _ (by omega), i2 i hi, A1 i hi]; rfl
      · rw [keep _ (by omega) (by omega) (by omega) (by omega)]; exact HC.out.h i hi
      · rw [i4 i hi, A3 i hi]; rfl
      · rw [o4 _ (by omega), i3 i hi, A2 i hi]; rfl
      · rw [keep _ (by omega) (by omega) (by omega) (by omega)]; exact HC.out.now i hi
    have HC4 := Lib.hid hc4
    have HS4 := Lib.hid hc4.size
    have H14 := Lib.hid hc4.one
    have HQ4 := Lib.hid q4
    have hfar := Blk.farSets (show w.heap.size + 1 ≠ w.heap.size by omega) F3 182 (Blk.farSets (show w.heap.size + 1 ≠ w.heap.size by omega) F2 272 (Blk.farSets (show w.heap.size + 1 ≠ w.heap.size by omega) F1 2 (HB11.out.far (p := ⟨w.heap.size, 1, none⟩) (show w.heap.size + 1 ≠ w.heap.size by omega) (.int .u64 (tag : Int)))))
    have HFAR := Lib.hid hfar
    have HBEL := Lib.hid (below_sets (Nat.le_refl _) F3 182 (below_sets (Nat.le_refl _) F2 272 (below_sets (Nat.le_refl _) F1 2 (HQ1.out.setCell (p := ⟨w.heap.size, 1, none⟩) (Nat.le_refl _) (.int .u64 (tag : Int))))))
    have HR1 : Hid (w1.rangeAt w.heap.size 92 F1) := HB01.out.rangeAt fun j hj => by rw [hl1] at hj; rw [HC.out.h j hj, A1 j hj]
    have HR2 : Hid (w1.rangeAt w.heap.size 362 F2) := HB01.out.rangeAt fun j hj => by rw [hl2] at hj; rw [HC.out.now j hj, A2 j hj]
    have HT1 : Hid (World.there (w1.setCell ⟨w.heap.size, 1, none⟩ (.int .u64 (tag : Int))) w.heap.size 2 F1.toArray.size) := q1.there (by rw [HL1.out.2.1, Array.size_setIfInBounds]; omega)
    have HT2 : Hid (World.there ((w1.setCell ⟨w.heap.size, 1, none⟩ (.int .u64 (tag : Int))).setCells w.heap.size 2 F1) w.heap.size 272 F2.toArray.size) := q2.there (by rw [HL2.out.2.1]; omega)
    have HT3 : Hid (World.there (((w1.setCell ⟨w.heap.size, 1, none⟩ (.int .u64 (tag : Int))).setCells w.heap.size 2 F1).setCells w.heap.size 272 F2) w.heap.size 182 Tryz.zeroCells32.size) := q3.there (by rw [HL3.out.2.1]; omega)
    have c1 : w1.cell? ⟨w.heap.size, 1, none⟩ = some (.int .u64 (R.tag : Int)) := by rw [HB01.out.cell, HC.out.tag]
    have f1 := HB01.out.free 1
    have HI1 : Hid ((Tryz.prog.info? 32).map (·.size) = some F1.length) := by rw [Hid, hl1]; exact info_flags
    have HI2 : Hid ((Tryz.prog.info? 33).map (·.size) = some F2.length) := by rw [Hid, hl2]; exact info_texts
    have HJ1 : Hid ((Tryz.prog.info? 32).map (·.size) = some F1.toArray.size) := by rw [Hid, HL1.out.2.1]; exact info_flags
    have HJ2 : Hid ((Tryz.prog.info? 33).map (·.size) = some F2.toArray.size) := by rw [Hid, HL2.out.2.1]; exact info_texts
    have HJ3 : Hid ((Tryz.prog.info? 32).map (·.size) = some Tryz.zeroCells32.size) := by rw [Hid, HL3.out.2.1]; exact info_flags
    clear hf q1 q2 q3 q4 o2 i2 o3 i3 o4 i4 s2 s3 s4 hc4 hfar hs A1 A2 A3 hl1 hl2 hl3
    go_wp2_with (first
      | (refine wpList_load_mid rfl _ (.tmp 10) rfl w.heap.size 92 rfl F1 _ HR1.out hu1 rfl HI1.out ?_)
      | (refine wpList_load_mid rfl _ (.tmp 12) rfl w.heap.size 362 rfl F2 _ HR2.out hu2 rfl HI2.out ?_)
      | (refine wpList_store_mid rfl _ (.tmp 16) (.tmp 11) rfl w.heap.size 2 F1.toArray rfl rfl HT1.out HJ1.out HL1.out.2.2 ?_)
      | (refine wpList_store_mid rfl _ (.tmp 17) (.tmp 13) rfl w.heap.size 272 F2.toArray rfl rfl HT2.out HJ2.out HL2.out.2.2 ?_)
      | (refine wpList_store_mid rfl _ (.tmp 18) (.tmp 14) rfl w.heap.size 182 Tryz.zeroCells32 rfl rfl HT3.out HJ3.out HL3.out.2.2 ?_; rw [HF3.out])
      | (refine wpList_load_row rfl _ (.tmp 2) rfl w.heap.size rfl _ d4 _ _ HQ4.out hu rfl (rpgInfo HS4.out) ?_)
      | (refine wpList_store_row rfl _ (.tmp 4) (.tmp 19) rfl (w.heap.size + 1) d4 rfl rfl _ Tryz.zeroCells35 HFAR.out (rpgInfo HS4.out) (by rw [zero13_size, HS4.out]) H14.out ?_))
    rw [HW.out.1, HW.out.2]
    exact bodyPost_ret (results_cell2 rfl _ _ (w.heap.size + 1) rfl (HFAR.out.setRow d4) (rpgTy HS4.out)) rfl ⟨d4, rfl, HC4.out, below_setRow HBEL.out (show w.heap.size ≤ w.heap.size + 1 by omega) d4⟩

set_option maxHeartbeats 2000000 in
set_option maxRecDepth 100000 in
theorem rdrop13_any (R : Rpg) (cs : Array Value) (w : World) (hc : Rc R cs) :
    Calls Tryz.prog 24 #[.agg cs] w fun e w' => ∃ cs', e = .returned (.agg cs') ∧ Rc R.drop cs' ∧ Below w.heap.size w w' := by
  obtain ⟨B0, B1, Q⟩ := two_new w cs Tryz.zeroCells35 35
  have HC := Lib.hid hc
  have HS := Lib.hid hc.size
  have hu := Tryz.underlying35
  have hu1 := Tryz.underlying32
  have hu2 := Tryz.underlying33
  have HB0 := Lib.hid B0
  have HB1 := Lib.hid B1
  have HQ := Lib.hid Q
  clear hc B0 B1 Q
  go_enter Tryz.func24, Tryz.ntmps24
  go_upto_region 1 with (fail)
  generalize hW : ((w.alloc (.cells cs 35)).alloc (.cells Tryz.zeroCells35 35)) = w1 at *
  clear hW
  obtain ⟨F1, hF1⟩ : ∃ F, flagsV R.oldHas = F := ⟨_, rfl⟩
  obtain ⟨F2, hF2⟩ : ∃ F, textsV R.old = F := ⟨_, rfl⟩
  obtain ⟨F3, hF3⟩ : ∃ F, Tryz.zeroCells32.toList = F := ⟨_, rfl⟩
  have HL1 : Hid (F1.length = 90 ∧ F1.toArray.size = 90 ∧ F1.toArray.all (·.oneCell') = true) := by rw [← hF1]; exact ⟨flagsV_len _, by rw [List.size_toArray, flagsV_len], flagsV_one _⟩
  have HL2 : Hid (F2.length = 90 ∧ F2.toArray.size = 90 ∧ F2.toArray.all (·.oneCell') = true) := by rw [← hF2]; exact ⟨textsV_len _, by rw [List.size_toArray, textsV_len], textsV_one _⟩
  have HL3 : Hid (F3.length = 90 ∧ Tryz.zeroCells32.size = 90 ∧ Tryz.zeroCells32.all (·.oneCell') = true) := by rw [← hF3]; exact ⟨by rw [Array.length_toList, zeroFlags_size], zeroFlags_size, zeroFlags_one⟩
  have A1 : ∀ i, i < 90 → F1[i]? = some (.bool (R.oldHas i)) := fun i hi => by rw [← hF1]; exact flagsV_at hi
  have A2 : ∀ i, i < 90 → F2[i]? = some (.string (st (R.old i))) := fun i hi => by rw [← hF2]; exact textsV_at hi
  have A3 : ∀ i, i < 90 → F3[i]? = some (.bool false) := fun i hi => by rw [← hF3]; exact zeroFlags_at hi
  have HF3 := Lib.hid hF3
  clear hF1 hF2 hF3
  have hl1 := HL1.out.1
  have hl2 := HL2.out.1
  have hl3 := HL3.out.1
  have hs := HS.out
  obtain ⟨d2, q2, s2, o2, i2⟩ := Blk.sets F1 92 HB0.out (by rw [hl1]; omega)
  obtain ⟨d3, q3, s3, o3, i3⟩ := Blk.sets F2 362 q2 (by rw [hl2]; omega)
  obtain ⟨d4, q4, s4, o4, i4⟩ := Blk.sets F3 182 q3 (by rw [hl3]; omega)
  rw [hl1] at o2 i2
  rw [hl2] at o3 i3
  rw [hl3] at o4 i4
  have hc4 : Rc R.drop d4 := by
    have keep : ∀ i, (i < 92 ∨ 182 ≤ i) → (i < 362 ∨ 452 ≤ i) → (i < 182 ∨ 272 ≤ i) → d4[i]? = cs[i]? := fun i h2 h3 h4 => by
      rw [o4 i (by omega), o3 i (by omega), o2 i (by omega)]
    refine ⟨by rw [s4, s3, s2, hs], ?_, ?_, fun i hi => ?_, fun i hi => ?_, fun i hi => ?_, fun i hi => ?_, fun i hi => ?_⟩
    · rw [keep 0 (by omega) (by omega) (by omega)]; exact HC.out.places
    · rw [keep 1 (by omega) (by omega) (by omega)]; exact HC.out.tag
    · rw [keep _ (by omega) (by omega) (by omega)]; exact HC.out.oh i hi
    · rw [o4 _ (by omega), o3 _ (by omega), i2 i hi, A1 i hi]; rfl
    · rw [i4 i hi, A3 i hi]; rfl
    · rw [keep _ (by omega) (by omega) (by omega)]; exact HC.out.old i hi
    · rw [o4 _ (by omega), i3 i hi, A2 i hi]; rfl
  have HC4 := Lib.hid hc4
  have HS4 := Lib.hid hc4.size
  have H14 := Lib.hid hc4.one
  have HQ4 := Lib.hid q4
  have hfar := Blk.farSets (show w.heap.size + 1 ≠ w.heap.size by omega) F3 182 (Blk.farSets (show w.heap.size + 1 ≠ w.heap.size by omega) F2 362 (Blk.farSets (show w.heap.size + 1 ≠ w.heap.size by omega) F1 92 HB1.out))
  have HFAR := Lib.hid hfar
  have HBEL := Lib.hid (below_sets (Nat.le_refl _) F3 182 (below_sets (Nat.le_refl _) F2 362 (below_sets (Nat.le_refl _) F1 92 HQ.out)))
  have HR1 : Hid (w1.rangeAt w.heap.size 2 F1) := HB0.out.rangeAt fun j hj => by rw [hl1] at hj; rw [HC.out.oh j hj, A1 j hj]
  have HR2 : Hid (w1.rangeAt w.heap.size 272 F2) := HB0.out.rangeAt fun j hj => by rw [hl2] at hj; rw [HC.out.old j hj, A2 j hj]
  have HT1 : Hid (World.there w1 w.heap.size 92 F1.toArray.size) := HB0.out.there (by rw [HL1.out.2.1]; omega)
  have HT2 : Hid (World.there (w1.setCells w.heap.size 92 F1) w.heap.size 362 F2.toArray.size) := q2.there (by rw [HL2.out.2.1]; omega)
  have HT3 : Hid (World.there ((w1.setCells w.heap.size 92 F1).setCells w.heap.size 362 F2) w.heap.size 182 Tryz.zeroCells32.size) := q3.there (by rw [HL3.out.2.1]; omega)
  have HI1 : Hid ((Tryz.prog.info? 32).map (·.size) = some F1.length) := by rw [Hid, hl1]; exact info_flags
  have HI2 : Hid ((Tryz.prog.info? 33).map (·.size) = some F2.length) := by rw [Hid, hl2]; exact info_texts
  have HJ1 : Hid ((Tryz.prog.info? 32).map (·.size) = some F1.toArray.size) := by rw [Hid, HL1.out.2.1]; exact info_flags
  have HJ2 : Hid ((Tryz.prog.info? 33).map (·.size) = some F2.toArray.size) := by rw [Hid, HL2.out.2.1]; exact info_texts
  have HJ3 : Hid ((Tryz.prog.info? 32).map (·.size) = some Tryz.zeroCells32.size) := by rw [Hid, HL3.out.2.1]; exact info_flags
  clear q2 q3 q4 o2 i2 o3 i3 o4 i4 s2 s3 s4 hc4 hfar hs A1 A2 A3 hl1 hl2 hl3
  go_wp2_with (first
    | (refine wpList_load_mid rfl _ (.tmp 3) rfl w.heap.size 2 rfl F1 _ HR1.out hu1 rfl HI1.out ?_)
    | (refine wpList_load_mid rfl _ (.tmp 5) rfl w.heap.size 272 rfl F2 _ HR2.out hu2 rfl HI2.out ?_)
    | (refine wpList_store_mid rfl _ (.tmp 8) (.tmp 4) rfl w.heap.size 92 F1.toArray rfl rfl HT1.out HJ1.out HL1.out.2.2 ?_)
    | (refine wpList_store_mid rfl _ (.tmp 9) (.tmp 6) rfl w.heap.size 362 F2.toArray rfl rfl HT2.out HJ2.out HL2.out.2.2 ?_)
    | (refine wpList_store_mid rfl _ (.tmp 10) (.tmp 7) rfl w.heap.size 182 Tryz.zeroCells32 rfl rfl HT3.out HJ3.out HL3.out.2.2 ?_; rw [HF3.out])
    | (refine wpList_load_row rfl _ (.tmp 1) rfl w.heap.size rfl _ d4 _ _ HQ4.out hu rfl (rpgInfo HS4.out) ?_)
    | (refine wpList_store_row rfl _ (.tmp 2) (.tmp 11) rfl (w.heap.size + 1) d4 rfl rfl _ Tryz.zeroCells35 HFAR.out (rpgInfo HS4.out) (by rw [zero13_size, HS4.out]) H14.out ?_))
  exact bodyPost_ret (results_cell1 rfl _ _ (w.heap.size + 1) rfl (HFAR.out.setRow d4) (rpgTy HS4.out)) rfl ⟨d4, rfl, HC4.out, below_setRow HBEL.out (show w.heap.size ≤ w.heap.size + 1 by omega) d4⟩
end Go.Proofs.YtildohndbeagaaaGreatDoor
