/- What the proof of PagerLeast needs, part 48. -/
import Derived.Test.YtildohndbeagaaaGreatDoorPagerLeastJ47

namespace Go.Proofs.YtildohndbeagaaaGreatDoor
open Go Go.RowKit
set_option linter.unusedVariables false

theorem turn_row (w : World) (g : Nat) (cs : Array Value) : Turn (fun b => b = g) w (w.setRow g cs) := ⟨rfl, rfl, rfl, by rw [size_setRow]; exact Nat.le_refl _, fun b _ hn => heap_setRow w g cs b hn⟩
theorem Ptp.row {Z Z' : Pz} {W X : World} (h : Ptp Z W Z' X) {g : Nat} (hg : W.heap.size ≤ g) (cs : Array Value) : Ptp Z W Z' (X.setRow g cs) := ⟨h.g, h.hg, h.turn.trans (turn_row X g cs) (fun b hb => .inr (by rw [hb]; exact hg)), h.has⟩

set_option maxHeartbeats 8000000 in
set_option maxRecDepth 100000 in
theorem do13_alloc {w W : World} {Z : Pz} {P : Pgr} {c : Int → List UInt8} {R : Rpg} {cs : Array Value} (p : Px w W Z P c) (hc : Rc R cs) (id nst : Int) (tag : Nat) (b : List UInt8) (A : Option Addr) (nl cl : Nat) (hid : InI id) (hbl : b.length ≤ 1000000) {g : Nat} (hg : Z.g = g) :
    Calls Tryz.prog 21 #[.pointer (some ⟨g, 0, none⟩), .agg cs, .agg #[.int .i64 2, .int .i64 id, .int .i64 nst, .int .u64 (tag : Int), .string (st b), .slice A nl cl]] W (DoPost w W Z P c R 2 id b) := by
  obtain ⟨B4, B5, B6, Q⟩ := three_new W cs #[.int .i64 2, .int .i64 id, .int .i64 nst, .int .u64 (tag : Int), .string (st b), .slice A nl cl] Tryz.zeroCells35 35 54 35
  have HC := Lib.hid hc
  have HS := Lib.hid hc.size
  have hu := Tryz.underlying35
  have HB4 := Lib.hid B4
  have HB6 := Lib.hid B6
  have HX := Lib.hid (p.later Q)
  have HT : Hid (Ptp Z W Z _) := Ptp.below Q
  have HG := Lib.hid hg
  have hwW := p.below.size
  have HOK : Hid (Al P c R → ((R.alloc b).2.1 : Int) = ((P.alloc b).2.1 : Int) ∧ ((R.alloc b).2.2 : Int) = ((P.alloc b).2.2 : Int)) := fun h => by
    rw [(h.alloc b).2]
    exact ⟨rfl, rfl⟩
  have HBL : Hid (b.length ≤ 1099511627776) := by rw [Hid]; omega
  have HML : Hid (b.length ≤ maxLen) := by rw [Hid]; unfold maxLen; omega
  clear hc B4 B6 p hg
  go_enter Tryz.func21, Tryz.ntmps21
  go_upto_region 1 with (fail)
  generalize hU : (((W.alloc (.cells cs 35)).alloc (.cells #[.int .i64 2, .int .i64 id, .int .i64 nst, .int .u64 (tag : Int), .string (st b), .slice A nl cl] 54)).alloc (.cells Tryz.zeroCells35 35)) = U at *
  clear hU
  have x0 : (U).cell? ⟨W.heap.size + 1, 0, none⟩ = some (.int .i64 2) := B5.cell 0
  have x1 : (U).cell? ⟨W.heap.size + 1, 1, none⟩ = some (.int .i64 id) := B5.cell 1
  have x2 : (U).cell? ⟨W.heap.size + 1, 2, none⟩ = some (.int .i64 nst) := B5.cell 2
  have x3 : (U).cell? ⟨W.heap.size + 1, 3, none⟩ = some (.int .u64 (tag : Int)) := B5.cell 3
  have x4 : (U).cell? ⟨W.heap.size + 1, 4, none⟩ = some (.string (st b)) := B5.cell 4
  have x5 : (U).cell? ⟨W.heap.size + 1, 5, none⟩ = some (.slice A nl cl) := B5.cell 5
  go_wp2_with (refine wpList_load_row rfl _ (.tmp 4) rfl W.heap.size rfl _ cs _ _ HB4.out hu rfl (rpgInfo HS.out) ?_)
  refine (ralloc13_any R cs b U HC.out HBL.out).mono ?_
  rintro e U1 ⟨ds, rfl, hcd, hb1⟩
  obtain ⟨i1, hi1⟩ : ∃ i1 : Int, ((R.alloc b).2.1 : Int) = i1 := ⟨_, rfl⟩
  obtain ⟨e1, he1⟩ : ∃ e1 : Int, ((R.alloc b).2.2 : Int) = e1 := ⟨_, rfl⟩
  rw [hi1, he1] at HOK ⊢
  clear hi1 he1
  have HCD := Lib.hid hcd
  have HSD := Lib.hid hcd.size
  have H1D := Lib.hid hcd.one
  have bz := Blk.new U1 35 Tryz.zeroCells35
  have HZ := Lib.hid bz
  have HN := Lib.hid (bz.setRow ds)
  have HNE : Hid (U1.heap.size ≠ W.heap.size + 1 + 1) := by
    have h1 := HB6.out.lt
    have h2 := hb1.size
    rw [Hid]; omega
  have q2 : Below U.heap.size U ((U1.alloc (.cells Tryz.zeroCells35 35)).setRow U1.heap.size ds) := below_setRow (hb1.alloc hb1.size _) hb1.size ds
  have B5 := B5.later q2
  have HB6 := Lib.hid (HB6.out.later q2)
  have HX := Lib.hid (HX.out.later q2)
  have HT := Lib.hid (HT.out.trans (Ptp.below q2))
  clear hcd bz q2 hb1 x0 x1 x2 x3 x4 x5
  go_upto_region 10 with (refine wpList_store_row rfl _ (.tmp 12) (.tmp 63) rfl U1.heap.size ds rfl rfl _ Tryz.zeroCells35 HZ.out (rpgInfo HSD.out) (by rw [zero13_size, HSD.out]) H1D.out ?_)
  generalize hV : (U1.alloc _).setRow _ ds = V at *
  clear hV
  generalize U1.heap.size = n at *
  have x0 : (V).cell? ⟨W.heap.size + 1, 0, none⟩ = some (.int .i64 2) := B5.cell 0
  have x1 : (V).cell? ⟨W.heap.size + 1, 1, none⟩ = some (.int .i64 id) := B5.cell 1
  have x2 : (V).cell? ⟨W.heap.size + 1, 2, none⟩ = some (.int .i64 nst) := B5.cell 2
  have x3 : (V).cell? ⟨W.heap.size + 1, 3, none⟩ = some (.int .u64 (tag : Int)) := B5.cell 3
  have x4 : (V).cell? ⟨W.heap.size + 1, 4, none⟩ = some (.string (st b)) := B5.cell 4
  have x5 : (V).cell? ⟨W.heap.size + 1, 5, none⟩ = some (.slice A nl cl) := B5.cell 5
  go_wp2_with (refine wpList_bytes_of_st _ rfl (.tmp 69) rfl tS tB tU HML.out rfl ?_; intro A7 c7 w7 hbs7 hbl7 hsz7)
  refine (px_alloc (HX.out.later hbl7) _ _ b hbs7 HBL.out HG.out).mono ?_
  rintro e w8 ⟨rfl, hx8, ht8⟩
  have hX7 := HX.out.later hbl7
  have HB68 := Lib.hid (hX7.blk ht8 (HB6.out.later hbl7) (by decide) (by decide) (by decide) (by decide))
  have HN8 := Lib.hid (hX7.blk ht8 (HN.out.later hbl7) (by decide) (by decide) (by decide) (by decide))
  have HX8 := Lib.hid (Px.row hx8 HB68.out (by decide) (show w.heap.size ≤ W.heap.size + 1 + 1 by omega) ds)
  have HT8 := Lib.hid (((HT.out.trans (Ptp.below hbl7)).trans ht8).row (show W.heap.size ≤ W.heap.size + 1 + 1 by omega) ds)
  have HA1 : Hid (R.act 2 id b = (R.alloc b).1 ∧ P.act 2 id b = (P.alloc b).1) := ⟨by simp [Rpg.act], by simp [Pgr.act]⟩
  obtain ⟨i2, hi2⟩ : ∃ i2 : Int, ((P.alloc b).2.1 : Int) = i2 := ⟨_, rfl⟩
  obtain ⟨e2, he2⟩ : ∃ e2 : Int, ((P.alloc b).2.2 : Int) = e2 := ⟨_, rfl⟩
  rw [hi2, he2] at HOK ⊢
  clear hi2 he2 hx8 ht8 hX7 hbs7 hbl7 hsz7 x0 x1 x2 x3 x4 x5 B5
  by_cases q1 : i1 = i2
  case' pos => subst q1
  all_goals by_cases q2 : e1 = e2
  case' pos => subst q2
  all_goals
    go_wp2_with (first | (refine wpList_load_row rfl _ (.tmp 12) rfl n rfl _ ds _ _ HN8.out hu rfl (rpgInfo HSD.out) ?_) | (refine wpList_store_row rfl _ (.tmp 6) (.tmp 74) rfl (W.heap.size + 1 + 1) ds rfl rfl _ Tryz.zeroCells35 HB68.out (rpgInfo HSD.out) (by rw [zero13_size, HSD.out]) H1D.out ?_))
    refine bodyPost_ret (results_cell2 rfl _ _ (W.heap.size + 1 + 1) rfl (HB68.out.setRow ds) (rpgTy HSD.out)) rfl ⟨ds, _, rfl, ?_, ?_, fun h => ?_, HT8.out⟩
    · rw [HA1.out.1]; exact HCD.out
    · rw [HA1.out.2]; exact HX8.out
    · first
        | rfl
        | exact absurd (HOK.out h).1 (by assumption)
        | exact absurd (HOK.out h).2 (by assumption)

set_option maxHeartbeats 8000000 in
set_option maxRecDepth 100000 in
theorem do13_drop {w W : World} {Z : Pz} {P : Pgr} {c : Int → List UInt8} {R : Rpg} {cs : Array Value} (p : Px w W Z P c) (hc : Rc R cs) (id nst : Int) (tag : Nat) (b : List UInt8) (A : Option Addr) (nl cl : Nat) {g : Nat} (hg : Z.g = g) :
    Calls Tryz.prog 21 #[.pointer (some ⟨g, 0, none⟩), .agg cs, .agg #[.int .i64 4, .int .i64 id, .int .i64 nst, .int .u64 (tag : Int), .string (st b), .slice A nl cl]] W (DoPost w W Z P c R 4 id b) := by
  obtain ⟨B4, B5, B6, Q⟩ := three_new W cs #[.int .i64 4, .int .i64 id, .int .i64 nst, .int .u64 (tag : Int), .string (st b), .slice A nl cl] Tryz.zeroCells35 35 54 35
  have HC := Lib.hid hc
  have HS := Lib.hid hc.size
  have hu := Tryz.underlying35
  have HB4 := Lib.hid B4
  have HB6 := Lib.hid B6
  have HX := Lib.hid (p.later Q)
  have HT : Hid (Ptp Z W Z _) := Ptp.below Q
  have HG := Lib.hid hg
  have hwW := p.below.size
  clear hc B4 B6 p hg
  go_enter Tryz.func21, Tryz.ntmps21
  go_upto_region 1 with (fail)
  generalize hU : (((W.alloc (.cells cs 35)).alloc (.cells #[.int .i64 4, .int .i64 id, .int .i64 nst, .int .u64 (tag : Int), .string (st b), .slice A nl cl] 54)).alloc (.cells Tryz.zeroCells35 35)) = U at *
  clear hU
  have x0 : (U).cell? ⟨W.heap.size + 1, 0, none⟩ = some (.int .i64 4) := B5.cell 0
  have x1 : (U).cell? ⟨W.heap.size + 1, 1, none⟩ = some (.int .i64 id) := B5.cell 1
  have x2 : (U).cell? ⟨W.heap.size + 1, 2, none⟩ = some (.int .i64 nst) := B5.cell 2
  have x3 : (U).cell? ⟨W.heap.size + 1, 3, none⟩ = some (.int .u64 (tag : Int)) := B5.cell 3
  have x4 : (U).cell? ⟨W.heap.size + 1, 4, none⟩ = some (.string (st b)) := B5.cell 4
  have x5 : (U).cell? ⟨W.heap.size + 1, 5, none⟩ = some (.slice A nl cl) := B5.cell 5
  go_wp2_with fail
  refine (px_drop HX.out HG.out).mono ?_
  rintro e U1 ⟨rfl, hx1, ht1⟩
  have HB41 := Lib.hid (HX.out.blk ht1 HB4.out (by decide) (by decide) (by decide) (by decide))
  have HB61 := Lib.hid (HX.out.blk ht1 HB6.out (by decide) (by decide) (by decide) (by decide))
  have HX1 := Lib.hid hx1
  have HT1 := Lib.hid (HT.out.trans ht1)
  clear hx1 ht1 x0 x1 x2 x3 x4 x5 B5
  go_wp2_with (refine wpList_load_row rfl _ (.tmp 4) rfl W.heap.size rfl _ cs _ _ HB41.out hu rfl (rpgInfo HS.out) ?_)
  refine (rdrop13_any R cs U1 HC.out).mono ?_
  rintro e U2 ⟨ds, rfl, hcd, hb2⟩
  have HCD := Lib.hid hcd
  have HSD := Lib.hid hcd.size
  have H1D := Lib.hid hcd.one
  have HB62 := Lib.hid (HB61.out.later hb2)
  have HX2 := Lib.hid (Px.row (HX1.out.later hb2) HB62.out (by decide) (show w.heap.size ≤ W.heap.size + 1 + 1 by omega) ds)
  have HT2 := Lib.hid ((HT1.out.trans (Ptp.below hb2)).row (show W.heap.size ≤ W.heap.size + 1 + 1 by omega) ds)
  have HA1 : Hid (R.act 4 id b = R.drop ∧ P.act 4 id b = P.drop) := ⟨by simp [Rpg.act], by simp [Pgr.act]⟩
  clear hcd hb2
  go_wp2_with (refine wpList_store_row rfl _ (.tmp 6) (.tmp 88) rfl (W.heap.size + 1 + 1) ds rfl rfl _ Tryz.zeroCells35 HB62.out (rpgInfo HSD.out) (by rw [zero13_size, HSD.out]) H1D.out ?_)
  refine bodyPost_ret (results_cell2 rfl _ _ (W.heap.size + 1 + 1) rfl (HB62.out.setRow ds) (rpgTy HSD.out)) rfl ⟨ds, true, rfl, ?_, ?_, fun h => rfl, HT2.out⟩
  · rw [HA1.out.1]; exact HCD.out
  · rw [HA1.out.2]; exact HX2.out

set_option maxHeartbeats 8000000 in
set_option maxRecDepth 100000 in
theorem do13_else {w W : World} {Z : Pz} {P : Pgr} {c : Int → List UInt8} {R : Rpg} {cs : Array Value} (p : Px w W Z P c) (hc : Rc R cs) (kind id nst : Int) (tag : Nat) (b : List UInt8) (A : Option Addr) (nl cl : Nat) (k0 : ¬ kind = 0) (k1 : ¬ kind = 1) (k2 : ¬ kind = 2) (k4 : ¬ kind = 4) (g : Nat) :
    Calls Tryz.prog 21 #[.pointer (some ⟨g, 0, none⟩), .agg cs, .agg #[.int .i64 kind, .int .i64 id, .int .i64 nst, .int .u64 (tag : Int), .string (st b), .slice A nl cl]] W (DoPost w W Z P c R kind id b) := by
  obtain ⟨B4, B5, B6, Q⟩ := three_new W cs #[.int .i64 kind, .int .i64 id, .int .i64 nst, .int .u64 (tag : Int), .string (st b), .slice A nl cl] Tryz.zeroCells35 35 54 35
  have HC := Lib.hid hc
  have HS := Lib.hid hc.size
  have H1 := Lib.hid hc.one
  have hu := Tryz.underlying35
  have HB4 := Lib.hid B4
  have HB6 := Lib.hid B6
  have hwW := p.below.size
  have HX := Lib.hid (Px.row (p.later Q) B6 (by decide) (show w.heap.size ≤ W.heap.size + 1 + 1 by omega) cs)
  have HT := Lib.hid ((Ptp.below (Z := Z) Q).row (show W.heap.size ≤ W.heap.size + 1 + 1 by omega) cs)
  have HA1 : Hid (R.act kind id b = R ∧ P.act kind id b = P) := ⟨by simp [Rpg.act, k0, k1, k2, k4], by simp [Pgr.act, k0, k1, k2, k4]⟩
  clear hc B4 B6 p
  go_enter Tryz.func21, Tryz.ntmps21
  go_upto_region 1 with (fail)
  generalize hU : (((W.alloc (.cells cs 35)).alloc (.cells #[.int .i64 kind, .int .i64 id, .int .i64 nst, .int .u64 (tag : Int), .string (st b), .slice A nl cl] 54)).alloc (.cells Tryz.zeroCells35 35)) = U at *
  clear hU
  have x0 : (U).cell? ⟨W.heap.size + 1, 0, none⟩ = some (.int .i64 kind) := B5.cell 0
  have x1 : (U).cell? ⟨W.heap.size + 1, 1, none⟩ = some (.int .i64 id) := B5.cell 1
  have x2 : (U).cell? ⟨W.heap.size + 1, 2, none⟩ = some (.int .i64 nst) := B5.cell 2
  have x3 : (U).cell? ⟨W.heap.size + 1, 3, none⟩ = some (.int .u64 (tag : Int)) := B5.cell 3
  have x4 : (U).cell? ⟨W.heap.size + 1, 4, none⟩ = some (.string (st b)) := B5.cell 4
  have x5 : (U).cell? ⟨W.heap.size + 1, 5, none⟩ = some (.slice A nl cl) := B5.cell 5
  go_wp2_with (first | (refine wpList_load_row rfl _ (.tmp 4) rfl W.heap.size rfl _ cs _ _ HB4.out hu rfl (rpgInfo HS.out) ?_) | (refine wpList_store_row rfl _ (.tmp 6) (.tmp 89) rfl (W.heap.size + 1 + 1) cs rfl rfl _ Tryz.zeroCells35 HB6.out (rpgInfo HS.out) (by rw [zero13_size, HS.out]) H1.out ?_))
  refine bodyPost_ret (results_cell2 rfl _ _ (W.heap.size + 1 + 1) rfl (HB6.out.setRow cs) (rpgTy HS.out)) rfl ⟨cs, true, rfl, ?_, ?_, fun h => rfl, HT.out⟩
  · rw [HA1.out.1]; exact HC.out
  · rw [HA1.out.2]; exact HX.out

/-- An act but a commit, or opening. -/
theorem do13_any {w W : World} {Z : Pz} {P : Pgr} {c : Int → List UInt8} {R : Rpg} {cs : Array Value} (p : Px w W Z P c) (hc : Rc R cs) (kind id nst : Int) (tag : Nat) (b : List UInt8) (A : Option Addr) (nl cl : Nat) (hid : InI id) (hbl : b.length ≤ 1000000) {g : Nat} (hg : Z.g = g) :
    Calls Tryz.prog 21 #[.pointer (some ⟨g, 0, none⟩), .agg cs, .agg #[.int .i64 kind, .int .i64 id, .int .i64 nst, .int .u64 (tag : Int), .string (st b), .slice A nl cl]] W (DoPost w W Z P c R kind id b) := by
  by_cases k0 : kind = 0
  · subst k0; exact do13_write p hc id nst tag b A nl cl hid hbl hg
  by_cases k1 : kind = 1
  · subst k1; exact do13_free p hc id nst tag b A nl cl hid hg
  by_cases k2 : kind = 2
  · subst k2; exact do13_alloc p hc id nst tag b A nl cl hid hbl hg
  by_cases k4 : kind = 4
  · subst k4; exact do13_drop p hc id nst tag b A nl cl hg
  · exact do13_else p hc kind id nst tag b A nl cl k0 k1 k2 k4 g
end Go.Proofs.YtildohndbeagaaaGreatDoor
