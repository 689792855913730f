/- What the proof of PagerLeast needs, part 47. -/
import Derived.Test.YtildohndbeagaaaGreatDoorPagerLeastJ46

namespace Go.Proofs.YtildohndbeagaaaGreatDoor
open Go Go.RowKit
set_option linter.unusedVariables false

set_option maxHeartbeats 8000000 in
set_option maxRecDepth 100000 in
theorem do13_free {w W : World} {Z : Pz} {P : Pgr} {c : Int → List UInt8} {R : Rpg} {cs : Array Value} (p : Px w W Z P c) (hc : Rc R cs) (id nst : Int) (tag : Nat) (b : List UInt8) (A : Option Addr) (nl cl : Nat) (hid : InI id) {g : Nat} (hg : Z.g = g) :
    Calls Tryz.prog 21 #[.pointer (some ⟨g, 0, none⟩), .agg cs, .agg #[.int .i64 1, .int .i64 id, .int .i64 nst, .int .u64 (tag : Int), .string (st b), .slice A nl cl]] W (DoPost w W Z P c R 1 id b) := by
  obtain ⟨B4, B5, B6, Q⟩ := three_new W cs #[.int .i64 1, .int .i64 id, .int .i64 nst, .int .u64 (tag : Int), .string (st b), .slice A nl cl] Tryz.zeroCells35 35 54 35
  have HC := Lib.hid hc
  have HS := Lib.hid hc.size
  have hu := Tryz.underlying35
  have HB4 := Lib.hid B4
  have HB6 := Lib.hid B6
  have HX := Lib.hid (p.later Q)
  have HT : Hid (Ptp Z W Z _) := Ptp.below Q
  have HG := Lib.hid hg
  have hwW := p.below.size
  have HOK : Hid (Al P c R → (if P.has id then 0 else 131 : Int) = R.why id) := fun h => by
    unfold Rpg.why
    rw [h.inn p.pk id]
  obtain ⟨pf, hpf⟩ : ∃ pf : Int, (if P.has id then 0 else 131 : Int) = pf := ⟨_, rfl⟩
  obtain ⟨rv, hrv⟩ : ∃ rv : Int, R.why id = rv := ⟨_, rfl⟩
  have hpf2 : pf = 0 ∨ pf = 131 := by rw [← hpf]; split <;> simp
  have hrv2 : rv = 0 ∨ rv = 131 := by rw [← hrv]; unfold Rpg.why; split <;> simp
  rw [hpf, hrv] at HOK
  have HPF := Lib.hid hpf
  have HRV := Lib.hid hrv
  clear hc B4 B6 p hg hpf hrv
  go_enter Tryz.func21, Tryz.ntmps21
  go_upto_region 1 with (fail)
  generalize hU : (((W.alloc (.cells cs 35)).alloc (.cells #[.int .i64 1, .int .i64 id, .int .i64 nst, .int .u64 (tag : Int), .string (st b), .slice A nl cl] 54)).alloc (.cells Tryz.zeroCells35 35)) = U at *
  clear hU
  have x0 : (U).cell? ⟨W.heap.size + 1, 0, none⟩ = some (.int .i64 1) := B5.cell 0
  have x1 : (U).cell? ⟨W.heap.size + 1, 1, none⟩ = some (.int .i64 id) := B5.cell 1
  have x2 : (U).cell? ⟨W.heap.size + 1, 2, none⟩ = some (.int .i64 nst) := B5.cell 2
  have x3 : (U).cell? ⟨W.heap.size + 1, 3, none⟩ = some (.int .u64 (tag : Int)) := B5.cell 3
  have x4 : (U).cell? ⟨W.heap.size + 1, 4, none⟩ = some (.string (st b)) := B5.cell 4
  have x5 : (U).cell? ⟨W.heap.size + 1, 5, none⟩ = some (.slice A nl cl) := B5.cell 5
  go_wp2_with (refine wpList_load_row rfl _ (.tmp 4) rfl W.heap.size rfl _ cs _ _ HB4.out hu rfl (rpgInfo HS.out) ?_)
  refine (rfree13_any R cs id U HC.out hid).mono ?_
  rintro e U1 ⟨ds, rfl, hcd, hb1⟩
  rw [HRV.out]
  have HCD := Lib.hid hcd
  have HSD := Lib.hid hcd.size
  have H1D := Lib.hid hcd.one
  have bz := Blk.new U1 35 Tryz.zeroCells35
  have HZ := Lib.hid bz
  have HN := Lib.hid (bz.setRow ds)
  have HNE : Hid (U1.heap.size ≠ W.heap.size + 1 + 1) := by
    have h1 := HB6.out.lt
    have h2 := hb1.size
    rw [Hid]; omega
  have q2 : Below U.heap.size U ((U1.alloc (.cells Tryz.zeroCells35 35)).setRow U1.heap.size ds) := below_setRow (hb1.alloc hb1.size _) hb1.size ds
  have B5 := B5.later q2
  have HB6 := Lib.hid (HB6.out.later q2)
  have HX := Lib.hid (HX.out.later q2)
  have HT := Lib.hid (HT.out.trans (Ptp.below q2))
  clear hcd bz q2 hb1 x0 x1 x2 x3 x4 x5
  go_upto_region 7 with (refine wpList_store_row rfl _ (.tmp 10) (.tmp 47) rfl U1.heap.size ds rfl rfl _ Tryz.zeroCells35 HZ.out (rpgInfo HSD.out) (by rw [zero13_size, HSD.out]) H1D.out ?_)
  generalize hV : (U1.alloc _).setRow _ ds = V at *
  clear hV
  generalize U1.heap.size = n at *
  have x0 : (V).cell? ⟨W.heap.size + 1, 0, none⟩ = some (.int .i64 1) := B5.cell 0
  have x1 : (V).cell? ⟨W.heap.size + 1, 1, none⟩ = some (.int .i64 id) := B5.cell 1
  have x2 : (V).cell? ⟨W.heap.size + 1, 2, none⟩ = some (.int .i64 nst) := B5.cell 2
  have x3 : (V).cell? ⟨W.heap.size + 1, 3, none⟩ = some (.int .u64 (tag : Int)) := B5.cell 3
  have x4 : (V).cell? ⟨W.heap.size + 1, 4, none⟩ = some (.string (st b)) := B5.cell 4
  have x5 : (V).cell? ⟨W.heap.size + 1, 5, none⟩ = some (.slice A nl cl) := B5.cell 5
  have hP := HX.out.pg
  have hrn : n ≠ W.heap.size + 1 + 1 := HNE.out
  have nx : ¬ cfF Z.has (W.heap.size + 1 + 1) (W.heap.size + 1) := by
    rintro (h | h)
    · exact hP.not_has (kind_blk B5) (by decide) h
    · omega
  have nn : ¬ cfF Z.has (W.heap.size + 1 + 1) n := by
    rintro (h | h)
    · exact hP.not_has (kind_blk HN.out) (by decide) h
    · exact hrn h
  have nr : ¬ Z.has (W.heap.size + 1 + 1) := hP.not_has (kind_blk HB6.out) (by decide)
  have HNX := Lib.hid nx
  have HNN := Lib.hid nn
  have HNR := Lib.hid nr
  clear nx nn nr hP hrn B5
  rcases hpf2 with rfl | rfl <;> rcases hrv2 with rfl | rfl
  all_goals
    refine wp_region_cf Z.has ⟨7, W.heap.size + 1 + 1, 35, 0, 452⟩ 4 (show (7 : Nat) ≠ 4 by decide) (by kernel_rfl) (by kernel_rfl) (by kernel_rfl) ?_
    apply Exists.intro
    apply And.intro
    · apply wpC_load ds rfl rfl rfl 35 (.tmp 10) rfl n rfl hu rfl (rpgInfo HSD.out) HN.out HNN.out
      intro K hK
      go_simp
      refine hK _ ?_
      clear hK K
      repeat (first
        | (apply wpC_skip rfl
           intro K hK
           go_simp
           refine hK _ ?_
           clear hK K)
        | (apply wpC_is rfl rfl rfl
           · intro wg hwg _
             have x1 := turn_cell hwg x1 HNX.out
             unfold grows
             go_simp
             first
               | exact grows_value _ _
           intro K hK
           go_simp
           refine hK _ ?_
           clear hK K))
      apply wpC_call (V := VPx w Z (P.free id) c (.int .i64 (if P.has id then 0 else 131))) rfl rfl
      · intro wg hwg hf
        clear hf
        unfold steps
        go_simp
        apply steps_call
        exact (px_free (HX.out.later hwg) id hid HG.out).mono (by rintro e W' ⟨he, h1, h2⟩; exact ⟨_, he, h2.turn, rfl, h1⟩)
      intro xv hxv K hK
      obtain ⟨wx, _, rfl, _⟩ := hxv
      rw [HPF.out] at hK ⊢
      go_simp
      refine hK _ ?_
      clear hK K
      repeat (first
        | (apply wpC_skip rfl
           intro K hK
           go_simp
           refine hK _ ?_
           clear hK K)
        | (apply wpC_is rfl rfl rfl
           · intro wg hwg _
             have x1 := turn_cell hwg x1 HNX.out
             unfold grows
             go_simp
             first
               | exact grows_value _ _
           intro K hK
           go_simp
           refine hK _ ?_
           clear hK K))
      apply wpC_store ds rfl (show (7 : Nat) ≠ 4 by decide) rfl 35 (.tmp 6) (.tmp 49) rfl rfl rfl (rpgInfo HSD.out) H1D.out HB6.out (by rw [zero13_size, HSD.out]) HNR.out rfl HSD.out.symm
      intro K hK
      go_simp
      refine hK _ ?_
      clear hK K
      repeat (first
        | (apply wpC_skip rfl
           intro K hK
           go_simp
           refine hK _ ?_
           clear hK K)
        | (apply wpC_is rfl rfl rfl
           · intro wg hwg _
             have x1 := x1
             unfold grows
             go_simp
             first
               | exact grows_value _ _
           intro K hK
           go_simp
           refine hK _ ?_
           clear hK K))
      refine wpC_end (fun wg hwg hf => ?_)
      have hpx := hf 4 _ _ rfl
      have hbr := hf 7 _ _ rfl
      clear hf
      obtain ⟨-, hpx⟩ := hpx
      obtain ⟨-, cs6, hbr, hcs6⟩ := hbr
      injection hcs6 with hcs6
      subst hcs6
      have HPX := Lib.hid hpx
      have HBR := Lib.hid hbr
      have HPT : Hid (Ptp Z W Z wg) := ⟨rfl, rfl, HT.out.turn.trans hwg (fun b hb => hb.elim .inl fun e => .inr (by rw [e]; show W.heap.size ≤ W.heap.size + 1 + 1; omega)), fun b h => .inl h⟩
      have HA1 : Hid (R.act 1 id b = R.free id ∧ P.act 1 id b = P.free id) := ⟨by simp [Rpg.act], by simp [Pgr.act]⟩
      clear hpx hbr hwg
      go_wp2_with fail
      refine bodyPost_ret (results_cell2 rfl _ _ (W.heap.size + 1 + 1) rfl HBR.out (rpgTy HSD.out)) rfl ⟨_, _, rfl, ?_, ?_, fun h => ?_, HPT.out⟩
      · rw [HA1.out.1]; exact HCD.out
      · rw [HA1.out.2]; exact HPX.out
      · first
          | rfl
          | exact absurd (HOK.out h) (by decide)
    · apply And.intro
      · repeat (first
          | exact trivial
          | (refine ⟨VCf.is _ _ _ _ _, ?_⟩)
          | (refine ⟨VPx.ok (show 35 ∉ pgKs by decide) (show w.heap.size ≤ W.heap.size + 1 + 1 by omega) rfl, ?_⟩)
          | (refine ⟨HasV.ok _ rfl HNR.out rfl, ?_⟩))
      · rfl
end Go.Proofs.YtildohndbeagaaaGreatDoor
